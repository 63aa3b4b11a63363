/- Chapter 06: the law's known; MerkleNodes: the walk. No condition. -/
import Derived.Test.YtnholkjgdpapbaaMkF
import Derived.Test.YtnholkjgdpapbaaUno
import Derived.Lib.SlBytesConst
namespace Go.Proofs.Ytnholkjgdpapbaa
set_option linter.unusedVariables false
set_option linter.unusedSimpArgs false
set_option maxRecDepth 10000
open Go.RowKit
attribute [local go_sem ↓] Go.wp_at_zero Go.wp_at_succ

def kA : Nd := leafY 0 [97]
def kB : Nd := leafY 1 [98]
theorem kAB : kA ≠ kB := by decide +kernel
theorem kRoot (kA kB : Nd) : rootY [kA, kB] = joinY 1 kA kB := by
  have h1 : chkN 2 = 0 := by decide +kernel
  have h2 : p2 2 = some 1 := by decide +kernel
  unfold rootY
  show (if chkN 2 = 0 then nodeY [kA, kB] ((p2 2).getD 0) 0 else z16N) = _
  rw [if_pos h1, h2]
  rfl
theorem kVer (kA kB : Nd) : verifyY (joinY 1 kA kB) kB 1 [kA] = true := by
  have h1 : fromE 1 1 = 0 := by decide +kernel
  unfold verifyY fromY
  show (decide (fromE 1 1 = 0) && decide ((if fromE 1 1 = 0 then atY kB (1 : Int).toNat [kA] 1 else z16N) = joinY 1 kA kB)) = true
  rw [if_pos h1, h1]
  simp only [decide_true, Bool.true_and, decide_eq_true_eq]
  rfl

theorem rd_mark1 (w : World) (x : UInt8) (f : Nat × Nat) : Rd (w.alloc (.cells #[Proofs.Ytnholkjgdpapbaa.u8 x] 5 f)) (w.heap.size + 1) (.slice (some ⟨w.heap.size, 0, none⟩) 1 1) [x] := by
  refine ⟨some ⟨w.heap.size, 0, none⟩, 1, rfl, Nat.le_refl _, by unfold maxLen; omega, fun _ => ⟨w.heap.size, 0, rfl, by omega, fun j y hj => ?_⟩⟩
  have hh : (w.alloc (.cells #[Proofs.Ytnholkjgdpapbaa.u8 x] 5 f)).heap[w.heap.size]? = some (.cells #[Proofs.Ytnholkjgdpapbaa.u8 x] 5 f) := alloc_heap_new w _
  cases j with
  | zero =>
    simp at hj; subst hj
    unfold World.cell?
    dsimp only
    rw [hh]; rfl
  | succ j => simp at hj

def TT11 : List (List Nat) := [[], [0], [0, 1], [0, 1, 2], [0, 1, 2], [0, 1, 2, 3, 4], [0, 1, 2, 3, 4, 5], [0, 1, 2, 3, 4, 5, 6], [0, 1, 2, 3, 4, 5, 6, 7], [0, 1, 2, 3, 4, 5, 6, 7], [0, 1, 2, 3, 4, 5, 6, 7], [0, 1, 2, 3, 4, 5, 6, 7, 9, 10], [0, 1, 2, 3, 4, 5, 6, 7, 8, 9, 10, 11], [0, 1, 2, 3, 4, 5, 6, 7, 8, 9, 10, 11, 12], [0, 1, 2, 3, 4, 5, 6, 7, 8, 9, 10, 11, 12, 13], [0, 1, 2, 3, 4, 5, 6, 7, 8, 9, 10, 11, 12, 13, 14], [0, 1, 2, 3, 4, 5, 6, 7, 8, 9, 10, 11, 12, 13, 14], [0, 1, 2, 3, 4, 5, 6, 7, 8, 9, 10, 11, 12, 13, 14], [0, 1, 2, 3, 4, 5, 6, 7, 8, 9, 10, 11, 12, 13, 14, 17], [0, 1, 2, 3, 4, 5, 6, 7, 8, 9, 10, 11, 12, 13, 14, 15, 16, 17, 18], [0, 1, 2, 3, 4, 5, 6, 7, 8, 9, 10, 11, 12, 13, 14, 15, 16, 17, 18, 19], [0, 1, 2, 3, 4, 5, 6, 7, 8, 9, 10, 11, 12, 13, 14, 15, 16, 17, 18, 19, 20]]
set_option maxHeartbeats 2000000 in
theorem known_any (w : World) : Calls Try.prog 11 #[] w fun e w' => e = .returned (.bool true) ∧ Fr0 w w' := by
  have h97 : ∀ w, (bsl 22 1 #[(0, .int .u8 97)]).run Try.prog w = .ok (.slice (some ⟨w.heap.size, 0, none⟩) 1 1) (w.alloc (.cells #[Proofs.Ytnholkjgdpapbaa.u8 97] 5)) := fun w => run_sl_u8_1 w 97
  have h98 : ∀ w, (bsl 22 1 #[(0, .int .u8 98)]).run Try.prog w = .ok (.slice (some ⟨w.heap.size, 0, none⟩) 1 1) (w.alloc (.cells #[Proofs.Ytnholkjgdpapbaa.u8 98] 5)) := fun w => run_sl_u8_1 w 98
  have hcv := fun (w : World) (C : Array Value) (n c : Nat) => Lib.run_convert_bytes_const (P := Try.prog) w 22 5 C n c Try.underlying22 Try.underlying5
  go_enter Try.func11, Try.ntmps11
  go_wp2_with fail
  refine (leaf_any 0 [97] _ _ _ (rd_mark1 w 97 _) (by simp)).mono ?_
  rintro e w1 ⟨rfl, hf1⟩
  have HF1 := Lib.hid (((Fr.refl (fun _ => False) w).alloc _).trans hf1)
  clear hf1
  rw [show leafY 0 [97] = kA from rfl]
  obtain ⟨a, HA⟩ := nm kA
  rw [← HA.out]
  go_wp2_with fail
  refine (leaf_any 1 [98] _ _ _ (rd_mark1 w1 98 _) (by simp)).mono ?_
  rintro e w2 ⟨rfl, hf2⟩
  rw [show leafY 1 [98] = kB from rfl]
  obtain ⟨b, HB⟩ := nm kB
  rw [← HB.out]
  have HF2 := Lib.hid ((HF1.out.alloc _).trans hf2)
  clear hf2
  obtain ⟨wC, HC⟩ := nm ((eB 16).put ((eB 16).put ((eB 16).new 27 ((eB 16).new 27 w2 z16N) z16N) w2.heap.size 0 a) (w2.heap.size + 1) 0 b)
  have a1 : (eB 16).at_ ((eB 16).put ((eB 16).put ((eB 16).new 27 ((eB 16).new 27 w2 z16N) z16N) w2.heap.size 0 a) (w2.heap.size + 1) 0 b) w2.heap.size 0 = some a := by simp [Enc.at_put]
  have a2 : (eB 16).at_ ((eB 16).put ((eB 16).put ((eB 16).new 27 ((eB 16).new 27 w2 z16N) z16N) w2.heap.size 0 a) (w2.heap.size + 1) 0 b) (w2.heap.size + 1) 0 = some b := by simp [Enc.at_put, Enc.okA_put]
  have hFC : Fr0 w wC := by rw [HC.out]; exact (((HF2.out.newE _ _ _).newE _ _ _).fin _ (by have := HF2.out.size; omega) _ _).fin _ (by have := HF2.out.size; omega) _ _
  have H := Lib.hid (show (eB 16).at_ wC w2.heap.size 0 = some a ∧ (eB 16).at_ wC (w2.heap.size + 1) 0 = some b ∧ Fr0 w wC from ⟨by rw [HC.out]; exact a1, by rw [HC.out]; exact a2, hFC⟩)
  go_wp2_with fail
  rw [← HC.out]
  have hsC : wC.heap.size = w2.heap.size + 1 + 1 := by rw [HC.out]; simp
  have hrd := Enc.Rds.newL (E := eB 16) 27 (by omega) wC [a, b] (by simp [maxLen])
  rw [hsC] at hrd
  clear a1 a2 hFC HC
  refine (mroot_any [a, b] _ _ 2 2 _ hrd (by omega)).mono ?_
  rintro e w4 ⟨rfl, hf4⟩
  rw [kRoot a b, show chkN 2 = 0 by decide +kernel]
  have HF4 := Lib.hid (((Fr.refl _ wC).newLE (eB 16) _ _).trans hf4)
  have hab : ¬ a = b := by rw [HA.out, HB.out]; exact kAB
  have HV := Lib.hid (kVer a b)
  obtain ⟨R, HR⟩ := nm (joinY 1 a b)
  rw [← HR.out] at HV ⊢
  clear hrd hsC hf4
  obtain ⟨wE, HE⟩ := nm ((eB 16).new 27 w4 R)
  have hCE : Fr0 wC wE := by rw [HE.out]; exact HF4.out.newE _ _ _
  have l1 : ∀ w', Fr0 wE w' → (eB 16).at_ w' w2.heap.size 0 = some a := fun w' h => ((eB 16).at_fr (hCE.trans h) _ _ ((eB 16).at_lt H.out.1)).trans H.out.1
  have l2 : ∀ w', Fr0 wE w' → (eB 16).at_ w' (w2.heap.size + 1) 0 = some b := fun w' h => ((eB 16).at_fr (hCE.trans h) _ _ ((eB 16).at_lt H.out.2.1)).trans H.out.2.1
  have l3 : ∀ w', Fr0 wE w' → (eB 16).at_ w' w4.heap.size 0 = some R := fun w' h => by
    have : (eB 16).at_ wE w4.heap.size 0 = some R := by rw [HE.out]; simp
    exact ((eB 16).at_fr h _ _ ((eB 16).at_lt this)).trans this
  have HFE := Lib.hid (H.out.2.2.trans hCE)
  clear hCE
  go_wp2_with fail
  rw [← HE.out]
  clear HE
  refine reg_start (by kernel_rfl) ?_
  refine reg_seq' 39 3 TT11 (by kernel_rfl) (by kernel_rfl) ?_
  simp only [List.drop_succ_cons, List.drop_zero, List.take_succ_cons, List.take_zero]
  go_wp2_with fail
  refine QR.mk ?_
  refine reg_uno (D := [some 18, some 19, some 20, some 21, some 22, some 23, some 24, some 25, some 26, some 27, some 28, some 29, some 30, some 31, some 32, some 33, some 34, some 35, some 36, some 37, some 38, some 0]) (J := [3, 4]) 5 [] [PV ((eB 16).v a), PV ((eB 16).v b)] TT11 (by kernel_rfl) (by kernel_rfl) (by kernel_rfl) rfl rfl rfl
    (stab_cons (PV.stab _) (stab_cons (PV.stab _) stab_nil))
    (fun v => usteps_cons ?_ (usteps_cons ?_ (usteps_nil))) (fun v wx hx hP hA => ?_)
  · refine ustep_mk (D := [some 18, some 19, some 20, some 21, some 22, some 23, some 24, some 25, some 26, some 27, some 28, some 29, some 30, some 31, some 32, some 33, some 34, some 35, some 36, some 37, some 38, some 0]) (Ti := []) rfl rfl rfl rfl (fun wx hx hP => ?_)   -- 3: load 27 (tmp 1)
    have hld := l1 wx ((Fr.drew (Fr.refl _ _)).trans hx)
    clear hP
    simp only [putD, List.getD_cons_zero, List.getD_cons_succ]
    go_wp2_with fail
    exact Q1.mk rfl _ rfl ⟨Fr.refl _ _, rfl, frok_no rfl⟩
  · refine ustep_mk (D := [some 18, some 19, some 20, some 21, some 22, some 23, some 24, some 25, some 26, some 27, some 28, some 29, some 30, some 31, some 32, some 33, some 34, some 35, some 36, some 37, some 38, some 0]) (Ti := []) rfl rfl rfl rfl (fun wx hx hP => ?_)   -- 4: load 27 (tmp 2)
    have hld := l2 wx ((Fr.drew (Fr.refl _ _)).trans hx)
    clear hP
    simp only [putD, List.getD_cons_zero, List.getD_cons_succ]
    go_wp2_with fail
    exact Q1.mk rfl _ rfl ⟨Fr.refl _ _, rfl, frok_no rfl⟩
  have h3 : v 3 = (eB 16).v a := hP.1
  have h4 : v 4 = (eB 16).v b := hP.2.1
  have f1 : Fr0 wE wx := (Fr.drew (Fr.refl _ _)).trans hx
  obtain ⟨y1, rfl⟩ : ∃ y, y = wx := ⟨_, rfl⟩
  clear hx hA
  clear hP
  simp only [putD, List.getD_cons_zero, List.getD_cons_succ]
  refine reg_seq' 39 3 TT11 (by kernel_rfl) (by kernel_rfl) ?_
  simp only [List.drop_succ_cons, List.drop_zero, List.take_succ_cons, List.take_zero]
  go_wp2_with fail
  refine QR.mk ?_
  refine reg_uno (D := [some 18, some 19, some 20, some 21, some 22, some 23, some 24, some 25, some 26, some 27, some 28, some 29, some 30, some 31, some 32, some 33, some 34, some 35, some 36, some 37, some 38, some 0]) (J := [8, 9, 10, 11]) 12 [] [PV ((eB 16).v R), PV ((eB 16).v a), PV ((eB 16).v b), PV ((eB 16).v R)] TT11 (by kernel_rfl) (by kernel_rfl) (by kernel_rfl) rfl rfl rfl
    (stab_cons (PV.stab _) (stab_cons (PV.stab _) (stab_cons (PV.stab _) (stab_cons (PV.stab _) stab_nil))))
    (fun v => usteps_cons ?_ (usteps_cons ?_ (usteps_cons ?_ (usteps_cons ?_ (usteps_nil))))) (fun v wx hx hP hA => ?_)
  · refine ustep_mk (D := [some 18, some 19, some 20, some 21, some 22, some 23, some 24, some 25, some 26, some 27, some 28, some 29, some 30, some 31, some 32, some 33, some 34, some 35, some 36, some 37, some 38, some 0]) (Ti := []) rfl rfl rfl rfl (fun wx hx hP => ?_)   -- 8: load 27 (tmp 3)
    have hld := l3 wx (f1.trans hx)
    clear hP
    simp only [putD, List.getD_cons_zero, List.getD_cons_succ]
    go_wp2_with fail
    exact Q1.mk rfl _ rfl ⟨Fr.refl _ _, rfl, frok_no rfl⟩
  · refine ustep_mk (D := [some 18, some 19, some 20, some 21, some 22, some 23, some 24, some 25, some 26, some 27, some 28, some 29, some 30, some 31, some 32, some 33, some 34, some 35, some 36, some 37, some 38, some 0]) (Ti := []) rfl rfl rfl rfl (fun wx hx hP => ?_)   -- 9: load 27 (tmp 1)
    have hld := l1 wx (f1.trans hx)
    clear hP
    simp only [putD, List.getD_cons_zero, List.getD_cons_succ]
    go_wp2_with fail
    exact Q1.mk rfl _ rfl ⟨Fr.refl _ _, rfl, frok_no rfl⟩
  · refine ustep_mk (D := [some 18, some 19, some 20, some 21, some 22, some 23, some 24, some 25, some 26, some 27, some 28, some 29, some 30, some 31, some 32, some 33, some 34, some 35, some 36, some 37, some 38, some 0]) (Ti := []) rfl rfl rfl rfl (fun wx hx hP => ?_)   -- 10: load 27 (tmp 2)
    have hld := l2 wx (f1.trans hx)
    clear hP
    simp only [putD, List.getD_cons_zero, List.getD_cons_succ]
    go_wp2_with fail
    exact Q1.mk rfl _ rfl ⟨Fr.refl _ _, rfl, frok_no rfl⟩
  · refine ustep_mk (D := [some 18, some 19, some 20, some 21, some 22, some 23, some 24, some 25, some 26, some 27, some 28, some 29, some 30, some 31, some 32, some 33, some 34, some 35, some 36, some 37, some 38, some 0]) (Ti := [9, 10]) rfl rfl rfl rfl (fun wx hx hP => ?_)   -- 11: call { callee := Callee.value (func 14), args := #
    have h9 : v 9 = (eB 16).v a := hP.1
    have h10 : v 10 = (eB 16).v b := hP.2.1
    clear hP
    simp only [putD, List.getD_cons_zero, List.getD_cons_succ]
    go_wp2_with fail
    refine (join_any 1 a b _).mono ?_
    rintro e wy ⟨rfl, hfy⟩
    rw [← HR.out]
    go_wp2_with fail
    exact Q1.mk rfl _ rfl ⟨hfy, rfl, frok_no rfl⟩
  have h8 : v 8 = (eB 16).v R := hP.1
  have h9 : v 9 = (eB 16).v a := hP.2.1
  have h10 : v 10 = (eB 16).v b := hP.2.2.1
  have h11 : v 11 = (eB 16).v R := hP.2.2.2.1
  have f2 : Fr0 wE wx := f1.trans hx
  obtain ⟨y2, rfl⟩ : ∃ y, y = wx := ⟨_, rfl⟩
  clear hx hA
  clear hP
  simp only [putD, List.getD_cons_zero, List.getD_cons_succ]
  refine reg_seq' 39 3 TT11 (by kernel_rfl) (by kernel_rfl) ?_
  simp only [List.drop_succ_cons, List.drop_zero, List.take_succ_cons, List.take_zero]
  go_wp2_with fail
  refine QR.mk ?_
  refine reg_uno (D := [some 18, some 19, some 20, some 21, some 22, some 23, some 24, some 25, some 26, some 27, some 28, some 29, some 30, some 31, some 32, some 33, some 34, some 35, some 36, some 37, some 38, some 0]) (J := [15, 16, 17, 18]) 19 [] [PV ((eB 16).v R), PV ((eB 16).v b), PV ((eB 16).v a), PS (wE.heap.size) 27 (((eB 16).f a).toArray) 1] TT11 (by kernel_rfl) (by kernel_rfl) (by kernel_rfl) rfl rfl rfl
    (stab_cons (PV.stab _) (stab_cons (PV.stab _) (stab_cons (PV.stab _) (stab_cons (PS.stab _ _ _ _) stab_nil))))
    (fun v => usteps_cons ?_ (usteps_cons ?_ (usteps_cons ?_ (usteps_cons ?_ (usteps_nil))))) (fun v wx hx hP hA => ?_)
  · refine ustep_mk (D := [some 18, some 19, some 20, some 21, some 22, some 23, some 24, some 25, some 26, some 27, some 28, some 29, some 30, some 31, some 32, some 33, some 34, some 35, some 36, some 37, some 38, some 0]) (Ti := []) rfl rfl rfl rfl (fun wx hx hP => ?_)   -- 15: load 27 (tmp 3)
    have hld := l3 wx (f2.trans hx)
    clear hP
    simp only [putD, List.getD_cons_zero, List.getD_cons_succ]
    go_wp2_with fail
    exact Q1.mk rfl _ rfl ⟨Fr.refl _ _, rfl, frok_no rfl⟩
  · refine ustep_mk (D := [some 18, some 19, some 20, some 21, some 22, some 23, some 24, some 25, some 26, some 27, some 28, some 29, some 30, some 31, some 32, some 33, some 34, some 35, some 36, some 37, some 38, some 0]) (Ti := []) rfl rfl rfl rfl (fun wx hx hP => ?_)   -- 16: load 27 (tmp 2)
    have hld := l2 wx (f2.trans hx)
    clear hP
    simp only [putD, List.getD_cons_zero, List.getD_cons_succ]
    go_wp2_with fail
    exact Q1.mk rfl _ rfl ⟨Fr.refl _ _, rfl, frok_no rfl⟩
  · refine ustep_mk (D := [some 18, some 19, some 20, some 21, some 22, some 23, some 24, some 25, some 26, some 27, some 28, some 29, some 30, some 31, some 32, some 33, some 34, some 35, some 36, some 37, some 38, some 0]) (Ti := []) rfl rfl rfl rfl (fun wx hx hP => ?_)   -- 17: load 27 (tmp 1)
    have hld := l1 wx (f2.trans hx)
    clear hP
    simp only [putD, List.getD_cons_zero, List.getD_cons_succ]
    go_wp2_with fail
    exact Q1.mk rfl _ rfl ⟨Fr.refl _ _, rfl, frok_no rfl⟩
  · refine ustep_mk (D := [some 18, some 19, some 20, some 21, some 22, some 23, some 24, some 25, some 26, some 27, some 28, some 29, some 30, some 31, some 32, some 33, some 34, some 35, some 36, some 37, some 38, some 0]) (Ti := [17]) rfl rfl rfl rfl (fun wx hx hP => ?_)   -- 18: buildSlice 41 1 #[(0, tmp 35)]
    have h17 : v 17 = (eB 16).v a := hP.1
    have hle := f2.size
    clear hP
    simp only [putD, List.getD_cons_zero, List.getD_cons_succ]
    go_wp2_with fail
    exact Q1.mk rfl _ rfl ⟨(Fr.refl _ _).alloc _, ps_new (Nat.le_trans hle hx.size), frok_no rfl⟩
  have h15 : v 15 = (eB 16).v R := hP.1
  have h16 : v 16 = (eB 16).v b := hP.2.1
  have h17 : v 17 = (eB 16).v a := hP.2.2.1
  obtain ⟨g18, h18, hg18, hb18⟩ : PS (wE.heap.size) 27 (((eB 16).f a).toArray) 1 (v 18) wx := hP.2.2.2.1
  have f3 : Fr0 wE wx := f2.trans hx
  have hrs := Enc.Rds.of_blk1 hb18
  have hbl := hb18.lt
  clear hx hA
  clear hP
  simp only [putD, List.getD_cons_zero, List.getD_cons_succ]
  refine reg_seq' 39 3 TT11 (by kernel_rfl) (by kernel_rfl) ?_
  simp only [List.drop_succ_cons, List.drop_zero, List.take_succ_cons, List.take_zero]
  go_wp2_with fail
  refine (verify_any R b 1 [a] _ _ 1 1 _ hrs hbl).mono ?_
  rintro e w6 ⟨rfl, hf6⟩
  rw [HV.out]
  have f4 := f3.trans hf6
  clear hf6
  go_wp2_with fail
  refine QR.mk ?_
  refine reg_end (by decide) ?_
  go_wp2_with fail
  go_ret
  exact ⟨rfl, HFE.out.trans f4⟩

def TT3 : List (List Nat) := [[], [], [0, 1], [], [], [0, 1, 2, 3, 4], [0, 1, 2, 3, 4, 5], [0, 1, 2, 3, 4, 5, 6], [0, 1, 2, 3, 4, 5, 6, 7], [0, 1, 2, 3, 4, 5, 6, 7], [0, 1, 2, 3, 4, 5, 6, 7, 9], [0, 1, 2, 3, 4, 5, 6, 7], [0, 1, 2, 3, 4, 5, 6, 7, 11], [0, 1, 2, 3, 4, 5, 6, 7, 8, 9, 10, 11, 12], [0, 1, 2, 3, 4, 5, 6, 7], [0, 1, 2, 3, 4, 5, 6, 7], [0, 1, 2, 3, 4, 5, 6, 7, 15], [0, 1, 2, 3, 4, 5, 6, 7], [0, 1, 2, 3, 4, 5, 6, 7, 17], [0, 1, 2, 3, 4, 5, 6, 7, 8, 9, 10, 11, 12, 13, 14, 15, 16, 17, 18], [0, 1, 2, 3, 4, 5, 6, 7, 8, 9, 10, 11, 12, 13, 14, 15, 16, 17, 18, 19], [0, 1, 2, 3, 4, 5, 6, 7, 8, 9, 10, 11, 12, 13, 14, 15, 16, 17, 18, 19, 20], [0, 1, 2, 3, 4, 5, 6, 7, 8, 9, 10, 11, 12, 13, 14, 15, 16, 17, 18, 19, 20, 21]]

set_option maxHeartbeats 2000000 in
theorem nodes_walk (i : Int) (l : List UInt8) (A : Option Addr) (c : Nat) (p q : By 16) (w : World) (ha : Arg w w.heap.size A l.length c 1 (l.flatMap u8C)) :
    Calls Try.prog 3 #[.int .i64 i, .slice A l.length c, .agg (bs p.1 ++ bs q.1).toArray] w fun e w' => e = .returned (.bool true) ∧ Below w.heap.size w w' := by
  have hr := arg_rd ha
  obtain ⟨_, _, _, h1, h2⟩ := hr.form
  have hr0 := hr.fr0 ((Fr.refl (fun _ => False) w).newE e2 25 (p, q))
  have hp2 : e2.at_ (e2.new 25 w (p, q)) w.heap.size 0 = some (p, q) := e2.at_new _ _
  have hp3 := eP_at hp2
  have HR0 := Lib.hid hr0
  have HP := Lib.hid hp3
  have HL := Lib.hid (rfl : l.length = l.length)
  show Calls Try.prog 3 #[.int .i64 i, .slice A l.length c, e2.v (p, q)] w fun e w' => e = .returned (.bool true) ∧ Below w.heap.size w w'
  clear ha hr hr0 hp2 hp3
  obtain ⟨L, HLL⟩ := nm l.length
  rw [← HLL.out]
  by_cases h300 : 300 < L
  · have z0 : (300 : Int) < (L : Int) := by omega
    go_enter Try.func3, Try.ntmps3
    go_wp2_with fail
    refine (known_any _).mono ?_
    rintro e w1 ⟨rfl, hf1⟩
    have HF1 := Lib.hid (((Fr.refl (fun _ => False) w).newE _ _ _).trans hf1)
    clear hf1
    go_wp2_with fail
    refine (known_any _).mono ?_
    rintro e w2 ⟨rfl, hf2⟩
    have HF2 := Lib.hid (HF1.out.trans hf2)
    clear hf2
    go_wp2_with fail
    go_ret
    exact ⟨rfl, Fr0.below HF2.out⟩
  · have z0 : ¬ (300 : Int) < (L : Int) := by omega
    have hl' : l.length ≤ 1000000 := by have := HLL.out; omega
    go_enter Try.func3, Try.ntmps3
    go_wp2_with fail
    refine (known_any _).mono ?_
    rintro e wE ⟨rfl, hf1⟩
    have HFE := Lib.hid (((Fr.refl (fun _ => False) w).newE _ _ _).trans hf1)
    have hr := HR0.out.fr0 hf1
    rw [← HLL.out] at hr
    have HR := Lib.hid hr
    have l0 : ∀ w', Fr0 wE w' → (eB 16).at_ w' w.heap.size 0 = some p := fun w' h => ((eB 16).at_fr (hf1.trans h) _ _ (by simp)).trans HP.out.1
    have l1 : ∀ w', Fr0 wE w' → (eB 16).at_ w' w.heap.size 16 = some q := fun w' h => ((eB 16).at_fr (hf1.trans h) _ _ (by simp)).trans HP.out.2
    obtain ⟨X, HX⟩ := nm (leafY i l)
    obtain ⟨J, HJ⟩ := nm (joinY i p q)
    clear hf1 hr
    go_wp2_with fail
    refine reg_start (by kernel_rfl) ?_
    refine reg_uno (D := [some 15, some 16, some 17, some 18, some 19, some 20, some 21, some 22, some 23, some 24, some 25, some 26, some 27, some 28, some 29, some 30, some 31, some 32, some 33, some 34, some 35, some 36, some 6]) (J := [0, 1, 2, 3, 4]) 5 [] [PV (.int .i64 i), PV (.slice A L c), PV ((eB 16).v X), PV (.int .i64 i), PV (.slice A L c)] TT3 (by kernel_rfl) (by kernel_rfl) (by kernel_rfl) rfl rfl rfl
      (stab_cons (PV.stab _) (stab_cons (PV.stab _) (stab_cons (PV.stab _) (stab_cons (PV.stab _) (stab_cons (PV.stab _) stab_nil)))))
      (fun v => usteps_cons ?_ (usteps_cons ?_ (usteps_cons ?_ (usteps_cons ?_ (usteps_cons ?_ (usteps_nil)))))) (fun v wx hx hP hA => ?_)
    · refine ustep_mk (D := [some 15, some 16, some 17, some 18, some 19, some 20, some 21, some 22, some 23, some 24, some 25, some 26, some 27, some 28, some 29, some 30, some 31, some 32, some 33, some 34, some 35, some 36, some 6]) (Ti := []) rfl rfl rfl rfl (fun wx hx hP => ?_)   -- 0: move (tmp 0)
      clear hP
      simp only [putD, List.getD_cons_zero, List.getD_cons_succ]
      go_wp2_with fail
      exact Q1.mk rfl _ rfl ⟨Fr.refl _ _, rfl, frok_no rfl⟩
    · refine ustep_mk (D := [some 15, some 16, some 17, some 18, some 19, some 20, some 21, some 22, some 23, some 24, some 25, some 26, some 27, some 28, some 29, some 30, some 31, some 32, some 33, some 34, some 35, some 36, some 6]) (Ti := []) rfl rfl rfl rfl (fun wx hx hP => ?_)   -- 1: move (tmp 1)
      clear hP
      simp only [putD, List.getD_cons_zero, List.getD_cons_succ]
      go_wp2_with fail
      exact Q1.mk rfl _ rfl ⟨Fr.refl _ _, rfl, frok_no rfl⟩
    · refine ustep_mk (D := [some 15, some 16, some 17, some 18, some 19, some 20, some 21, some 22, some 23, some 24, some 25, some 26, some 27, some 28, some 29, some 30, some 31, some 32, some 33, some 34, some 35, some 36, some 6]) (Ti := [0, 1]) rfl rfl rfl rfl (fun wx hx hP => ?_)   -- 2: call { callee := Callee.value (func 12), args := #
      have h0 : v 0 = .int .i64 i := hP.1
      have h1 : v 1 = .slice A L c := hP.2.1
      clear hP
      simp only [putD, List.getD_cons_zero, List.getD_cons_succ]
      go_wp2_with fail
      refine (leaf_any i l _ _ _ (HR.out.fr0 ((Fr.drew (Fr.refl _ _)).trans hx)) hl').mono ?_
      rintro e wy ⟨rfl, hfy⟩
      rw [← HX.out]
      go_wp2_with fail
      exact Q1.mk rfl _ rfl ⟨hfy, rfl, frok_no rfl⟩
    · refine ustep_mk (D := [some 15, some 16, some 17, some 18, some 19, some 20, some 21, some 22, some 23, some 24, some 25, some 26, some 27, some 28, some 29, some 30, some 31, some 32, some 33, some 34, some 35, some 36, some 6]) (Ti := []) rfl rfl rfl rfl (fun wx hx hP => ?_)   -- 3: move (tmp 0)
      clear hP
      simp only [putD, List.getD_cons_zero, List.getD_cons_succ]
      go_wp2_with fail
      exact Q1.mk rfl _ rfl ⟨Fr.refl _ _, rfl, frok_no rfl⟩
    · refine ustep_mk (D := [some 15, some 16, some 17, some 18, some 19, some 20, some 21, some 22, some 23, some 24, some 25, some 26, some 27, some 28, some 29, some 30, some 31, some 32, some 33, some 34, some 35, some 36, some 6]) (Ti := []) rfl rfl rfl rfl (fun wx hx hP => ?_)   -- 4: move (tmp 1)
      clear hP
      simp only [putD, List.getD_cons_zero, List.getD_cons_succ]
      go_wp2_with fail
      exact Q1.mk rfl _ rfl ⟨Fr.refl _ _, rfl, frok_no rfl⟩
    have h0 : v 0 = .int .i64 i := hP.1
    have h1 : v 1 = .slice A L c := hP.2.1
    have h2 : v 2 = (eB 16).v X := hP.2.2.1
    have h3 : v 3 = .int .i64 i := hP.2.2.2.1
    have h4 : v 4 = .slice A L c := hP.2.2.2.2.1
    have f1 : Fr0 wE wx := (Fr.drew (Fr.refl _ _)).trans hx
    clear hx hA
    clear hP
    simp only [putD, List.getD_cons_zero, List.getD_cons_succ]
    refine reg_seq' 37 3 TT3 (by kernel_rfl) (by kernel_rfl) ?_
    simp only [List.drop_succ_cons, List.drop_zero, List.take_succ_cons, List.take_zero]
    go_wp2_with fail
    refine (rleaf_any i l _ _ _ (HR.out.fr0 f1) hl').mono ?_
    rintro e w6 ⟨rfl, hf6⟩
    rw [← HX.out]
    have f2 := f1.trans hf6
    clear hf6
    go_wp2_with fail
    refine QR.mk ?_
    refine reg_uno (D := [some 15, some 16, some 17, some 18, some 19, some 20, some 21, some 22, some 23, some 24, some 25, some 26, some 27, some 28, some 29, some 30, some 31, some 32, some 33, some 34, some 35, some 36, some 6]) (J := [8, 9, 10, 11, 12, 13, 14, 15, 16, 17, 18]) 19 [] [PV (.int .i64 i), PV (.pointer (some ⟨w.heap.size, 0, none⟩)), PV ((eB 16).v p), PV (.pointer (some ⟨w.heap.size, 16, none⟩)), PV ((eB 16).v q), PV ((eB 16).v J), PV (.int .i64 i), PV (.pointer (some ⟨w.heap.size, 0, none⟩)), PV ((eB 16).v p), PV (.pointer (some ⟨w.heap.size, 16, none⟩)), PV ((eB 16).v q)] TT3 (by kernel_rfl) (by kernel_rfl) (by kernel_rfl) rfl rfl rfl
      (stab_cons (PV.stab _) (stab_cons (PV.stab _) (stab_cons (PV.stab _) (stab_cons (PV.stab _) (stab_cons (PV.stab _) (stab_cons (PV.stab _) (stab_cons (PV.stab _) (stab_cons (PV.stab _) (stab_cons (PV.stab _) (stab_cons (PV.stab _) (stab_cons (PV.stab _) stab_nil)))))))))))
      (fun v => usteps_cons ?_ (usteps_cons ?_ (usteps_cons ?_ (usteps_cons ?_ (usteps_cons ?_ (usteps_cons ?_ (usteps_cons ?_ (usteps_cons ?_ (usteps_cons ?_ (usteps_cons ?_ (usteps_cons ?_ (usteps_nil)))))))))))) (fun v wx hx hP hA => ?_)
    · refine ustep_mk (D := [some 15, some 16, some 17, some 18, some 19, some 20, some 21, some 22, some 23, some 24, some 25, some 26, some 27, some 28, some 29, some 30, some 31, some 32, some 33, some 34, some 35, some 36, some 6]) (Ti := []) rfl rfl rfl rfl (fun wx hx hP => ?_)   -- 8: move (tmp 0)
      clear hP
      simp only [putD, List.getD_cons_zero, List.getD_cons_succ]
      go_wp2_with fail
      exact Q1.mk rfl _ rfl ⟨Fr.refl _ _, rfl, frok_no rfl⟩
    · refine ustep_mk (D := [some 15, some 16, some 17, some 18, some 19, some 20, some 21, some 22, some 23, some 24, some 25, some 26, some 27, some 28, some 29, some 30, some 31, some 32, some 33, some 34, some 35, some 36, some 6]) (Ti := []) rfl rfl rfl rfl (fun wx hx hP => ?_)   -- 9: indexAddr 25 (tmp 5) (const (Value.int IntKind.i64
      clear hP
      simp only [putD, List.getD_cons_zero, List.getD_cons_succ]
      go_wp2_with fail
      exact Q1.mk rfl _ rfl ⟨Fr.refl _ _, rfl, frok_no rfl⟩
    · refine ustep_mk (D := [some 15, some 16, some 17, some 18, some 19, some 20, some 21, some 22, some 23, some 24, some 25, some 26, some 27, some 28, some 29, some 30, some 31, some 32, some 33, some 34, some 35, some 36, some 6]) (Ti := [9]) rfl rfl rfl rfl (fun wx hx hP => ?_)   -- 10: load 24 (tmp 24)
      have h9 : v 9 = .pointer (some ⟨w.heap.size, 0, none⟩) := hP.1
      have hld := l0 wx (f2.trans hx)
      clear hP
      simp only [putD, List.getD_cons_zero, List.getD_cons_succ]
      go_wp2_with fail
      exact Q1.mk rfl _ rfl ⟨Fr.refl _ _, rfl, frok_no rfl⟩
    · refine ustep_mk (D := [some 15, some 16, some 17, some 18, some 19, some 20, some 21, some 22, some 23, some 24, some 25, some 26, some 27, some 28, some 29, some 30, some 31, some 32, some 33, some 34, some 35, some 36, some 6]) (Ti := []) rfl rfl rfl rfl (fun wx hx hP => ?_)   -- 11: indexAddr 25 (tmp 5) (const (Value.int IntKind.i64
      clear hP
      simp only [putD, List.getD_cons_zero, List.getD_cons_succ]
      go_wp2_with fail
      exact Q1.mk rfl _ rfl ⟨Fr.refl _ _, rfl, frok_no rfl⟩
    · refine ustep_mk (D := [some 15, some 16, some 17, some 18, some 19, some 20, some 21, some 22, some 23, some 24, some 25, some 26, some 27, some 28, some 29, some 30, some 31, some 32, some 33, some 34, some 35, some 36, some 6]) (Ti := [11]) rfl rfl rfl rfl (fun wx hx hP => ?_)   -- 12: load 24 (tmp 26)
      have h11 : v 11 = .pointer (some ⟨w.heap.size, 16, none⟩) := hP.1
      have hld := l1 wx (f2.trans hx)
      clear hP
      simp only [putD, List.getD_cons_zero, List.getD_cons_succ]
      go_wp2_with fail
      exact Q1.mk rfl _ rfl ⟨Fr.refl _ _, rfl, frok_no rfl⟩
    · refine ustep_mk (D := [some 15, some 16, some 17, some 18, some 19, some 20, some 21, some 22, some 23, some 24, some 25, some 26, some 27, some 28, some 29, some 30, some 31, some 32, some 33, some 34, some 35, some 36, some 6]) (Ti := [8, 9, 10, 11, 12]) rfl rfl rfl rfl (fun wx hx hP => ?_)   -- 13: call { callee := Callee.value (func 14), args := #
      have h8 : v 8 = .int .i64 i := hP.1
      have h9 : v 9 = .pointer (some ⟨w.heap.size, 0, none⟩) := hP.2.1
      have h10 : v 10 = (eB 16).v p := hP.2.2.1
      have h11 : v 11 = .pointer (some ⟨w.heap.size, 16, none⟩) := hP.2.2.2.1
      have h12 : v 12 = (eB 16).v q := hP.2.2.2.2.1
      clear hP
      simp only [putD, List.getD_cons_zero, List.getD_cons_succ]
      go_wp2_with fail
      refine (join_any i p q _).mono ?_
      rintro e wy ⟨rfl, hfy⟩
      rw [← HJ.out]
      go_wp2_with fail
      exact Q1.mk rfl _ rfl ⟨hfy, rfl, frok_no rfl⟩
    · refine ustep_mk (D := [some 15, some 16, some 17, some 18, some 19, some 20, some 21, some 22, some 23, some 24, some 25, some 26, some 27, some 28, some 29, some 30, some 31, some 32, some 33, some 34, some 35, some 36, some 6]) (Ti := []) rfl rfl rfl rfl (fun wx hx hP => ?_)   -- 14: move (tmp 0)
      clear hP
      simp only [putD, List.getD_cons_zero, List.getD_cons_succ]
      go_wp2_with fail
      exact Q1.mk rfl _ rfl ⟨Fr.refl _ _, rfl, frok_no rfl⟩
    · refine ustep_mk (D := [some 15, some 16, some 17, some 18, some 19, some 20, some 21, some 22, some 23, some 24, some 25, some 26, some 27, some 28, some 29, some 30, some 31, some 32, some 33, some 34, some 35, some 36, some 6]) (Ti := []) rfl rfl rfl rfl (fun wx hx hP => ?_)   -- 15: indexAddr 25 (tmp 5) (const (Value.int IntKind.i64
      clear hP
      simp only [putD, List.getD_cons_zero, List.getD_cons_succ]
      go_wp2_with fail
      exact Q1.mk rfl _ rfl ⟨Fr.refl _ _, rfl, frok_no rfl⟩
    · refine ustep_mk (D := [some 15, some 16, some 17, some 18, some 19, some 20, some 21, some 22, some 23, some 24, some 25, some 26, some 27, some 28, some 29, some 30, some 31, some 32, some 33, some 34, some 35, some 36, some 6]) (Ti := [15]) rfl rfl rfl rfl (fun wx hx hP => ?_)   -- 16: load 24 (tmp 30)
      have h15 : v 15 = .pointer (some ⟨w.heap.size, 0, none⟩) := hP.1
      have hld := l0 wx (f2.trans hx)
      clear hP
      simp only [putD, List.getD_cons_zero, List.getD_cons_succ]
      go_wp2_with fail
      exact Q1.mk rfl _ rfl ⟨Fr.refl _ _, rfl, frok_no rfl⟩
    · refine ustep_mk (D := [some 15, some 16, some 17, some 18, some 19, some 20, some 21, some 22, some 23, some 24, some 25, some 26, some 27, some 28, some 29, some 30, some 31, some 32, some 33, some 34, some 35, some 36, some 6]) (Ti := []) rfl rfl rfl rfl (fun wx hx hP => ?_)   -- 17: indexAddr 25 (tmp 5) (const (Value.int IntKind.i64
      clear hP
      simp only [putD, List.getD_cons_zero, List.getD_cons_succ]
      go_wp2_with fail
      exact Q1.mk rfl _ rfl ⟨Fr.refl _ _, rfl, frok_no rfl⟩
    · refine ustep_mk (D := [some 15, some 16, some 17, some 18, some 19, some 20, some 21, some 22, some 23, some 24, some 25, some 26, some 27, some 28, some 29, some 30, some 31, some 32, some 33, some 34, some 35, some 36, some 6]) (Ti := [17]) rfl rfl rfl rfl (fun wx hx hP => ?_)   -- 18: load 24 (tmp 32)
      have h17 : v 17 = .pointer (some ⟨w.heap.size, 16, none⟩) := hP.1
      have hld := l1 wx (f2.trans hx)
      clear hP
      simp only [putD, List.getD_cons_zero, List.getD_cons_succ]
      go_wp2_with fail
      exact Q1.mk rfl _ rfl ⟨Fr.refl _ _, rfl, frok_no rfl⟩
    have h8 : v 8 = .int .i64 i := hP.1
    have h9 : v 9 = .pointer (some ⟨w.heap.size, 0, none⟩) := hP.2.1
    have h10 : v 10 = (eB 16).v p := hP.2.2.1
    have h11 : v 11 = .pointer (some ⟨w.heap.size, 16, none⟩) := hP.2.2.2.1
    have h12 : v 12 = (eB 16).v q := hP.2.2.2.2.1
    have h13 : v 13 = (eB 16).v J := hP.2.2.2.2.2.1
    have h14 : v 14 = .int .i64 i := hP.2.2.2.2.2.2.1
    have h15 : v 15 = .pointer (some ⟨w.heap.size, 0, none⟩) := hP.2.2.2.2.2.2.2.1
    have h16 : v 16 = (eB 16).v p := hP.2.2.2.2.2.2.2.2.1
    have h17 : v 17 = .pointer (some ⟨w.heap.size, 16, none⟩) := hP.2.2.2.2.2.2.2.2.2.1
    have h18 : v 18 = (eB 16).v q := hP.2.2.2.2.2.2.2.2.2.2.1
    have f3 : Fr0 wE wx := f2.trans hx
    clear hx hA
    clear hP
    simp only [putD, List.getD_cons_zero, List.getD_cons_succ]
    refine reg_seq' 37 4 TT3 (by kernel_rfl) (by kernel_rfl) ?_
    simp only [List.drop_succ_cons, List.drop_zero, List.take_succ_cons, List.take_zero]
    go_wp2_with fail
    refine (rjoin_any i p q _).mono ?_
    rintro e w7 ⟨rfl, hf7⟩
    rw [← HJ.out]
    have f4 := f3.trans hf7
    clear hf7
    go_wp2_with fail
    refine QR.mk ?_
    refine reg_end (by decide) ?_
    go_wp2_with fail
    go_ret
    exact ⟨rfl, Fr0.below (HFE.out.trans f4)⟩
end Go.Proofs.Ytnholkjgdpapbaa
