/- One-time signatures: the law's known. No condition. -/
import Derived.Test.YtjdbfedkadoklaaLowA
namespace Go.Proofs.Ytjdbfedkadoklaa
set_option linter.unusedVariables false
set_option linter.unusedSimpArgs false
set_option maxRecDepth 10000
open Go.RowKit
attribute [local go_sem ↓] Go.wp_at_zero Go.wp_at_succ

def kA : By 16 := ⟨List.replicate 16 0, by simp⟩
def kB : By 16 := ⟨List.replicate 15 0 ++ [1], by simp⟩
theorem ldA_self {w : World} {t : TypeId} {c cs : Array Value} {n : Nat} (h0 : c.size = n) (h1 : cs.size = n) : ldA (putW (w.alloc (.cells c t)) w.heap.size 0 cs) w.heap.size 0 n = some cs := ldA_same ((Blk.new w t c).ok h0) h1
theorem rv_kinds : kindsOf Try.prog 3 36 = some (List.replicate 16 (.int .u8)) := by kernel_rfl
@[go_sem] theorem run_rv_eq (w : World) (a b : By 16) : (eqv 36 (.agg (bs a.1).toArray) (.agg (bs b.1).toArray)).run Try.prog w = .ok (.bool (decide (a = b))) w := by
  rw [← sames_by]; exact run_eql_flat w 3 rv_kinds (by omega) val_bulletin_bulletinref07_Value _ _ (by_fits a) (by_fits b)
@[go_sem] theorem run_rv_ne (w : World) (a b : By 16) : (nev 36 (.agg (bs a.1).toArray) (.agg (bs b.1).toArray)).run Try.prog w = .ok (.bool (!decide (a = b))) w := by
  rw [← sames_by]; exact run_neq_flat w 3 rv_kinds (by omega) val_bulletin_bulletinref07_Value _ _ (by_fits a) (by_fits b)
theorem run_rv_same (w : World) (l : List UInt8) (hl : l.length = 16) : (eqv 36 (.agg (bs l).toArray) (.agg (bs l).toArray)).run Try.prog w = .ok (.bool true) w := by
  have := run_rv_eq w ⟨l, hl⟩ ⟨l, hl⟩; simpa using this
def TT13 : List (List Nat) := [[], [0], [0, 1], [0, 1, 2], [0, 1, 2, 3], [0, 1, 2, 3, 4], [0, 1, 2, 3, 4, 5], [0, 1, 2, 3, 4, 5, 6], [0, 1, 2, 3, 4, 5, 6, 7], [0, 1, 2, 3, 4, 5, 6, 7, 8], [0, 1, 2, 3, 4, 5, 6, 7, 8, 9], [0, 1, 2, 3, 4, 5, 6, 7, 8, 9, 10], [0, 1, 2, 3, 4, 5, 6, 7, 8, 9, 10, 11], [0, 1, 2, 3, 4, 5, 6, 7, 8, 9, 10, 11, 12], [0, 1, 2, 3, 4, 5, 6, 7, 8, 9, 10, 11, 12, 13], [0, 1, 2, 3, 4, 5, 6, 7, 8, 9, 10, 11, 12, 13, 14], [0, 1, 2, 3, 4, 5, 6, 7, 8, 9, 10, 11, 12, 13, 14, 15], [0, 1, 2, 3, 4, 5, 6, 7, 8, 9, 10, 11, 12, 13, 14, 15, 16], [0, 1, 2, 3, 4, 5, 6, 7, 8, 9, 10, 11, 12, 13, 14, 15, 16, 17], [0, 1, 2, 3, 4, 5, 6, 7, 8, 9, 10, 11, 12, 13, 14, 15, 16, 17, 18], [0, 1, 2, 3, 4, 5, 6, 7, 8, 9, 10, 11, 12, 13, 14, 15, 16, 17, 18, 19], [0, 1, 2, 3, 4, 5, 6, 7, 8, 9, 10, 11, 12, 13, 14, 15, 16, 17, 18, 19, 20], [0, 1, 2, 3, 4, 5, 6, 7, 8, 9, 10, 11, 12, 13, 14, 15, 16, 17, 18, 19, 20, 21], [0, 1, 2, 3, 4, 5, 6, 7, 8, 9, 10, 11, 12, 13, 14, 15, 16, 17, 18, 19, 20, 21, 22], [0, 1, 2, 3, 4, 5, 6, 7, 8, 9, 10, 11, 12, 13, 14, 15, 16, 17, 18, 19, 20, 21, 22, 23], [0, 1, 2, 3, 4, 5, 6, 7, 8, 9, 10, 11, 12, 13, 14, 15, 16, 17, 18, 19, 20, 21, 22, 23, 24], [0, 1, 2, 3, 4, 5, 6, 7, 8, 9, 10, 11, 12, 13, 14, 15, 16, 17, 18, 19, 20, 21, 22, 23, 24, 25], [0, 1, 2, 3, 4, 5, 6, 7, 8, 9, 10, 11, 12, 13, 14, 15, 16, 17, 18, 19, 20, 21, 22, 23, 24, 25, 26], [0, 1, 2, 3, 4, 5, 6, 7, 8, 9, 10, 11, 12, 13, 14, 15, 16, 17, 18, 19, 20, 21, 22, 23, 24, 25, 26, 27], [0, 1, 2, 3, 4, 5, 6, 7, 8, 9, 10, 11, 12, 13, 14, 15, 16, 17, 18, 19, 20, 21, 22, 23, 24, 25, 26, 27, 28], [0, 1, 2, 3, 4, 5, 6, 7, 8, 9, 10, 11, 12, 13, 14, 15, 16, 17, 18, 19, 20, 21, 22, 23, 24, 25, 26, 27, 28, 29], [0, 1, 2, 3, 4, 5, 6, 7, 8, 9, 10, 11, 12, 13, 14, 15, 16, 17, 18, 19, 20, 21, 22, 23, 24, 25, 26, 27, 28, 29, 30], [0, 1, 2, 3, 4, 5, 6, 7, 8, 9, 10, 11, 12, 13, 14, 15, 16, 17, 18, 19, 20, 21, 22, 23, 24, 25, 26, 27, 28, 29, 30, 31], [0, 1, 2, 3, 4, 5, 6, 7, 8, 9, 10, 11, 12, 13, 14, 15, 16, 17, 18, 19, 20, 21, 22, 23, 24, 25, 26, 27, 28, 29, 30, 31, 32], [0, 1, 2, 3, 4, 5, 6, 7, 8, 9, 10, 11, 12, 13, 14, 15, 16, 17, 18, 19, 20, 21, 22, 23, 24, 25, 26, 27, 28, 29, 30, 31, 32, 33], [0, 1, 2, 3, 4, 5, 6, 7, 8, 9, 10, 11, 12, 13, 14, 15, 16, 17, 18, 19, 20, 21, 22, 23, 24, 25, 26, 27, 28, 29, 30, 31, 32, 33, 34], [0, 1, 2, 3, 4, 5, 6, 7, 8, 9, 10, 11, 12, 13, 14, 15, 16, 17, 18, 19, 20, 21, 22, 23, 24, 25, 26, 27, 28, 29, 30, 31, 32, 33, 34, 35], [0, 1, 2, 3, 4, 5, 6, 7, 8, 9, 10, 11, 12, 13, 14, 15, 16, 17, 18, 19, 20, 21, 22, 23, 24, 25, 26, 27, 28, 29, 30, 31, 32, 33, 34, 35, 36], [0, 1, 2, 3, 4, 5, 6, 7, 8, 9, 10, 11, 12, 13, 14, 15, 16, 17, 18, 19, 20, 21, 22, 23, 24, 25, 26, 27, 28, 29, 30, 31, 32, 33, 34, 35, 36], [0, 1, 2, 3, 4, 5, 6, 7, 8, 9, 10, 11, 12, 13, 14, 15, 16, 17, 18, 19, 20, 21, 22, 23, 24, 25, 26, 27, 28, 29, 30, 31, 32, 33, 34, 35, 36, 38], [0, 1, 2, 3, 4, 5, 6, 7, 8, 9, 10, 11, 12, 13, 14, 15, 16, 17, 18, 19, 20, 21, 22, 23, 24, 25, 26, 27, 28, 29, 30, 31, 32, 33, 34, 35, 36, 37, 38, 39], [0, 1, 2, 3, 4, 5, 6, 7, 8, 9, 10, 11, 12, 13, 14, 15, 16, 17, 18, 19, 20, 21, 22, 23, 24, 25, 26, 27, 28, 29, 30, 31, 32, 33, 34, 35, 36, 37, 38, 39, 40], [0, 1, 2, 3, 4, 5, 6, 7, 8, 9, 10, 11, 12, 13, 14, 15, 16, 17, 18, 19, 20, 21, 22, 23, 24, 25, 26, 27, 28, 29, 30, 31, 32, 33, 34, 35, 36, 37, 38, 39, 40, 41]]

set_option maxHeartbeats 4000000 in
theorem known_any (w : World) : Calls Try.prog 13 #[] w fun e w' => e = .returned (.bool true) ∧ Fr0 w w' := by
  have hst8 : ∀ (w : World) (b o : Nat), (w.cell? ⟨b, o, none⟩).isSome = true → w.frozen? ⟨b, o, none⟩ = false → (st 5 (.pointer (some ⟨b, o, none⟩)) (.int .u8 1)).run Try.prog w = .ok () (w.setCell ⟨b, o, none⟩ (.int .u8 1)) := fun w b o h1 h2 => run_st_uint8 w b o 1 h1 h2
  obtain ⟨w2, hw2⟩ : ∃ w2, w2 = (w.alloc (.cells z16 22)).alloc (.cells #[.int .u8 0, .int .u8 0, .int .u8 0, .int .u8 0, .int .u8 0, .int .u8 0, .int .u8 0, .int .u8 0, .int .u8 0, .int .u8 0, .int .u8 0, .int .u8 0, .int .u8 0, .int .u8 0, .int .u8 0, .int .u8 1] 22) := ⟨_, rfl⟩
  obtain ⟨hb0, hb1, hf2, hs2⟩ := alloc2 _ _ _ _ _ _ hw2
  obtain ⟨A, hA⟩ : ∃ V, V = (bs kA.1).toArray := ⟨_, rfl⟩
  obtain ⟨B, hB⟩ : ∃ V, V = (bs kB.1).toArray := ⟨_, rfl⟩
  have hl0 : ∀ w', Fr0 w2 w' → ldA w' w.heap.size 0 16 = some A := fun w' h => by rw [hA]; exact (hb0.fr h (fun h => h)).all rfl
  have hl1 : ∀ w', Fr0 w2 w' → ldA w' (w.heap.size + 1) 0 16 = some B := fun w' h => by rw [hB]; exact (hb1.fr h (fun h => h)).all rfl
  have HL := Lib.hid (And.intro hl0 hl1)
  have HW := Lib.hid hw2
  have HF := Lib.hid hf2
  have HA := Lib.hid hA
  have HB := Lib.hid hB
  have HS := Lib.hid hs2
  have l0 := hl0 w2 (Fr.refl _ _)
  clear hw2 hb0 hb1 hf2 hA hB hl0 hl1 hs2
  go_enter Try.func13, Try.ntmps13
  go_wp2_with fail
  rw [← HW.out]
  obtain ⟨w', rfl⟩ : ∃ w', w' = w2 := ⟨_, rfl⟩
  refine (split_any kA w').mono ?_
  rintro e w3 ⟨rfl, hf3⟩
  have hZs := zt__35_int
  have hn1 := nis_one (splL kA.1)
  have hn2 : (nis (splL kA.1)).size = 35 := by simp
  obtain ⟨Y, HY⟩ := nm (nis (splL kA.1))
  rw [← HY.out] at hn1 hn2 ⊢
  obtain ⟨w4, HW4⟩ := nm (w3.alloc (.cells Y 27))
  have hb3 : Blk w4 w3.heap.size 27 Y := by rw [HW4.out]; exact Blk.new _ _ _
  have g1 : Fr0 w' w4 := by rw [HW4.out]; exact hf3.alloc _
  have l1 := HL.out.1 _ g1
  have l2 := HL.out.2 _ g1
  rw [HW4.out] at l1 l2
  have HB3 := Lib.hid hb3
  have G1 := Lib.hid g1
  have HS3 := Lib.hid hf3.size
  clear hb3 g1 hf3
  go_wp2_with fail
  rw [← HW4.out] at *
  rw [HA.out, HB.out]
  refine (lower_any kB kA _).mono ?_
  rintro e w5 ⟨rfl, hf5⟩
  have g5 := G1.out.trans hf5
  have l3 := HL.out.1 _ g5
  have l4 := HL.out.2 _ g5
  rw [show lowN kB.1 kA.1 = some 31 from by decide +kernel]
  have HF5 := Lib.hid hf5
  have G5 := Lib.hid g5
  clear hf5 g5
  go_wp2_with fail
  rw [HA.out, HB.out]
  refine (lower_any kA kB _).mono ?_
  rintro e w6 ⟨rfl, hf6⟩
  have g6 := G5.out.trans hf6
  have l5 := HL.out.1 _ g6
  have l6 := HL.out.2 _ g6
  rw [show lowN kA.1 kB.1 = some 33 from by decide +kernel]
  have HF6 := Lib.hid (HF5.out.trans hf6)
  have G6 := Lib.hid g6
  clear hf6 g6
  go_wp2_with fail
  rw [HA.out]
  refine (Step_ok 1 2 3 kA (by omega) (by omega) (by omega) _).mono ?_
  rintro e w7 ⟨rfl, hf7⟩
  have hst2 := a16_st ⟨stepB 1 2 3 kA.1, stepB_length _ _ _ _⟩
  change ∀ (w : World) (b' p : Nat), okA w b' p 16 = true → (st 22 (.pointer (some ⟨b', p, none⟩)) (.agg (bs (stepB 1 2 3 kA.1)).toArray)).run Try.prog w = .ok () (putW w b' p (bs (stepB 1 2 3 kA.1)).toArray) at hst2
  have hxs : (bs (stepB 1 2 3 kA.1)).toArray.size = 16 := by simp [stepB_length]
  obtain ⟨X, HX⟩ := nm (bs (stepB 1 2 3 kA.1)).toArray
  rw [← HX.out] at hst2 hxs ⊢
  obtain ⟨w8, HW8⟩ := nm (w7.alloc (.cells X 22))
  have hb8 : Blk w8 w7.heap.size 22 X := by rw [HW8.out]; exact Blk.new _ _ _
  have g8 : Fr0 w6 w8 := by rw [HW8.out]; exact hf7.alloc _
  have hb3 := (HB3.out.fr HF6.out (fun h => h)).fr g8 (fun h => h)
  have l7 : ∀ w', Fr0 w8.drew w' → ldA w' w.heap.size 0 16 = some A := fun w' h => HL.out.1 _ (G6.out.trans (g8.trans ((Fr.drew (Fr.refl _ _)).trans h)))
  have l8 : ∀ w', Fr0 w8.drew w' → ldA w' w7.heap.size 0 16 = some X := fun w' h => ((hb8.drew).fr h (fun h => h)).all hxs
  have cc : ∀ j, j < 35 → w8.cell? ⟨w3.heap.size, j, none⟩ = some (iv (splN kA.1 j)) := fun j hj => by
    rw [hb3.cell j, HY.out]; simp [nis, splL, hj]
  have c31 : w8.cell? ⟨w3.heap.size, 31, none⟩ = some (.int .i64 0) := (cc 31 (by omega)).trans (by rw [show splN kA.1 31 = 0 from by decide +kernel]; rfl)
  have c32 : w8.cell? ⟨w3.heap.size, 32, none⟩ = some (.int .i64 1) := (cc 32 (by omega)).trans (by rw [show splN kA.1 32 = 1 from by decide +kernel]; rfl)
  have c33 : w8.cell? ⟨w3.heap.size, 33, none⟩ = some (.int .i64 14) := (cc 33 (by omega)).trans (by rw [show splN kA.1 33 = 14 from by decide +kernel]; rfl)
  have c34 : w8.cell? ⟨w3.heap.size, 34, none⟩ = some (.int .i64 0) := (cc 34 (by omega)).trans (by rw [show splN kA.1 34 = 0 from by decide +kernel]; rfl)
  have G8 := Lib.hid (HF.out.trans (G6.out.trans g8))
  have L78 := Lib.hid (And.intro l7 l8)
  clear hb8 g8 hb3 l7 l8 cc l1 l2 l3 l4 l5 l6 hf7
  go_wp2_with fail
  rw [← HW8.out]
  refine reg_start (by kernel_rfl) ?_
  refine reg_seq 72 37 TT13 (by kernel_rfl) (by kernel_rfl) rfl rfl ?_   -- 0..36
  go_wp2_with fail
  refine QR.mk ?_
  obtain ⟨hl7, hl8⟩ := L78.out
  refine reg_uno (D := [some 30, some 31, some 32, some 33, some 34, some 35, some 36, some 37, some 38, some 39, some 40, some 41, some 42, some 43, some 44, some 45, some 46, some 47, some 48, some 49, some 50, some 51, some 52, some 53, some 54, some 55, some 56, some 57, some 58, some 59, some 60, some 61, some 62, some 63, some 64, some 65, some 66, some 67, some 68, some 69, some 70, some 71, some 0]) (J := [37, 38, 39]) 40 [] [PV (.agg X), PV (.agg A), PV (.agg X)] TT13 (by kernel_rfl) (by kernel_rfl) (by kernel_rfl) rfl rfl rfl
    (stab_cons (PV.stab _) (stab_cons (PV.stab _) (stab_cons (PV.stab _) stab_nil)))
    (fun v => usteps_cons ?_ (usteps_cons ?_ (usteps_cons ?_ (usteps_nil)))) (fun v wx hx hP hA => ?_)
  · refine ustep_mk (D := [some 30, some 31, some 32, some 33, some 34, some 35, some 36, some 37, some 38, some 39, some 40, some 41, some 42, some 43, some 44, some 45, some 46, some 47, some 48, some 49, some 50, some 51, some 52, some 53, some 54, some 55, some 56, some 57, some 58, some 59, some 60, some 61, some 62, some 63, some 64, some 65, some 66, some 67, some 68, some 69, some 70, some 71, some 0]) (Ti := []) rfl rfl rfl rfl (fun wx hx hP => ?_)   -- 37: Op.load 22 (tmp 8)
    have hl := hl8 wx hx
    clear hl7 hl8
    simp only [putD]
    go_wp2_with fail
    exact Q1.mk rfl _ rfl ⟨Fr.refl _ _, rfl, frok_no rfl⟩
  · refine ustep_mk (D := [some 30, some 31, some 32, some 33, some 34, some 35, some 36, some 37, some 38, some 39, some 40, some 41, some 42, some 43, some 44, some 45, some 46, some 47, some 48, some 49, some 50, some 51, some 52, some 53, some 54, some 55, some 56, some 57, some 58, some 59, some 60, some 61, some 62, some 63, some 64, some 65, some 66, some 67, some 68, some 69, some 70, some 71, some 0]) (Ti := []) rfl rfl rfl rfl (fun wx hx hP => ?_)   -- 38: Op.load 22 (tmp 1)
    have hl := hl7 wx hx
    clear hl7 hl8
    simp only [putD]
    go_wp2_with fail
    exact Q1.mk rfl _ rfl ⟨Fr.refl _ _, rfl, frok_no rfl⟩
  · refine ustep_mk (D := [some 30, some 31, some 32, some 33, some 34, some 35, some 36, some 37, some 38, some 39, some 40, some 41, some 42, some 43, some 44, some 45, some 46, some 47, some 48, some 49, some 50, some 51, some 52, some 53, some 54, some 55, some 56, some 57, some 58, some 59, some 60, some 61, some 62, some 63, some 64, some 65, some 66, some 67, some 68, some 69, some 70, some 71, some 0]) (Ti := [38]) rfl rfl rfl rfl (fun wx hx hP => ?_)   -- 39: Op.call { callee := Callee.value (func 21), args := 
    have h38 : v 38 = .agg A := hP.1
    clear hl7 hl8 hP
    simp only [putD, List.getD_cons_zero, List.getD_cons_succ]
    go_wp2_with fail
    rw [HA.out]
    refine (rstep_any 1 2 3 (by omega) kA _).mono ?_
    rintro e wy ⟨rfl, hfy⟩
    rw [← HX.out]
    go_wp2_with fail
    exact Q1.mk rfl _ rfl ⟨hfy, rfl, frok_no rfl⟩
  · have h37 : v 37 = .agg X := hP.1
    have h38 : v 38 = .agg A := hP.2.1
    have h39 : v 39 = .agg X := hP.2.2.1
    have heq : ∀ w, (eqv 36 (.agg X) (.agg X)).run Try.prog w = .ok (.bool true) w := fun w => by rw [HX.out]; exact run_rv_same w _ (stepB_length _ _ _ _)
    have HE := Lib.hid (G8.out.trans ((Fr.drew (Fr.refl _ _)).trans hx))
    clear hl7 hl8 hP hA hx
    simp only [putD, List.getD_cons_zero, List.getD_cons_succ]
    refine reg_seq 72 3 TT13 (by kernel_rfl) (by kernel_rfl) rfl rfl ?_   -- 40..42
    go_wp2_with fail
    refine QR.mk ?_
    refine reg_end (by decide) ?_
    go_wp2_with fail
    go_ret
    exact ⟨rfl, HE.out⟩
end Go.Proofs.Ytjdbfedkadoklaa
