/- One-time signatures: Lower. No condition. -/
import Derived.Test.YtjdbfedkadoklaaSplB
import Derived.Test.YtjdbfedkadoklaaUno
import Derived.Deep.CutRange
namespace Go.Proofs.Ytjdbfedkadoklaa
set_option linter.unusedVariables false
set_option linter.unusedSimpArgs false
set_option maxRecDepth 10000
open Go.RowKit
attribute [local go_sem ↓] Go.wp_at_zero Go.wp_at_succ

theorem lowN_some {a b : List UInt8} {k : Nat} (hk : k < 35) (h : ∀ c, c < k → ¬ splN b c < splN a c) (hp : splN b k < splN a k) : lowN a b = some k := by
  unfold lowN
  rw [List.find?_range_eq_some]
  exact ⟨by simpa using hp, by simpa using hk, fun j hj => by simpa using h j hj⟩
theorem lowN_none {a b : List UInt8} (h : ∀ c, c < 35 → ¬ splN b c < splN a c) : lowN a b = none := by
  unfold lowN
  exact List.find?_eq_none.2 (fun c hc => by simpa using h c (List.mem_range.1 hc))
theorem nis_cell {w : World} {g k n : Nat} {l : List Nat} (h : ldA w g 0 n = some (nis l)) (hk : k < n) {x : Nat} (hx : l[k]? = some x) : w.cell? ⟨g, k, none⟩ = some (iv x) := by
  have := ldA_cell h hk
  rw [Nat.zero_add] at this
  rw [this]; simp [nis, hx]
theorem splL_at {d : List UInt8} {k : Nat} (h : k < 35) : (splL d)[k]? = some (splN d k) := by simp [splL, h]

set_option maxHeartbeats 4000000 in
theorem lower_any (a b : By 16) (w : World) :
    Calls Try.prog 11 #[.agg (bs a.1).toArray, .agg (bs b.1).toArray] w fun e w' => e = .returned (.tuple #[iv ((lowN a.1 b.1).getD 0), .bool (lowN a.1 b.1).isSome]) ∧ Fr0 w w' := by
  have hsa : (bs a.1).toArray.size = 16 := by simp [a.2]
  have hsb : (bs b.1).toArray.size = 16 := by simp [b.2]
  obtain ⟨A, hA⟩ : ∃ V, V = (bs a.1).toArray := ⟨_, rfl⟩
  obtain ⟨B, hB⟩ : ∃ V, V = (bs b.1).toArray := ⟨_, rfl⟩
  rw [← hA] at hsa ⊢
  rw [← hB] at hsb ⊢
  obtain ⟨w2, hw2⟩ : ∃ w2, w2 = (w.alloc (.cells A 22)).alloc (.cells B 22) := ⟨_, rfl⟩
  obtain ⟨hb0, hb1, hf, hs⟩ := alloc2 _ _ _ _ _ _ hw2
  have HA := Lib.hid hA
  have HB := Lib.hid hB
  have HW := Lib.hid hw2
  have HF := Lib.hid hf
  have hl0 : ∀ w', Fr0 w2 w' → ldA w' w.heap.size 0 16 = some A := fun w' h => (hb0.fr h (fun h => h)).all hsa
  have hl1 : ∀ w', Fr0 w2 w' → ldA w' (w.heap.size + 1) 0 16 = some B := fun w' h => (hb1.fr h (fun h => h)).all hsb
  clear hA hB hw2 hb0 hb1 hf
  go_enter Try.func11, Try.ntmps11
  go_wp2_with fail
  rw [← HW.out]
  have hZs := zt__35_int
  have HAS := Lib.hid hsa
  have hna := nis_one (splL a.1)
  have hnb := nis_one (splL b.1)
  have hza : (nis (splL a.1)).size = 35 := by simp
  have hzb : (nis (splL b.1)).size = 35 := by simp
  obtain ⟨X, hX⟩ : ∃ X, X = nis (splL a.1) := ⟨_, rfl⟩
  obtain ⟨Y, hY⟩ : ∃ X, X = nis (splL b.1) := ⟨_, rfl⟩
  rw [← hX] at hna hza
  rw [← hY] at hnb hzb
  have HX := Lib.hid hX
  have HY := Lib.hid hY
  clear hX hY
  refine reg_start (by kernel_rfl) ?_
  refine reg_uno (D := [some 9, some 10, some 11, some 12, some 6, some 7, none, none]) (J := [0, 1, 2, 3, 4, 5]) 6 [4, 5] [PV (.agg A), PV (.agg X), PV (.agg B), PV (.agg Y), PB w2.heap.size 27 (zeroTail Try.prog 27 0), PB w2.heap.size 27 (zeroTail Try.prog 27 0)] [[], [0], [], [0, 1, 2], [], [], [0, 1, 2, 3, 4, 5], [0, 1, 2, 3, 4, 5, 6]] (by kernel_rfl) (by kernel_rfl) (by kernel_rfl) rfl rfl rfl
    (stab_cons (PV.stab _) (stab_cons (PV.stab _) (stab_cons (PV.stab _) (stab_cons (PV.stab _) (stab_cons (PB.stab _ _ _) (stab_cons (PB.stab _ _ _) stab_nil))))))
    (fun v => usteps_cons ?_ (usteps_cons ?_ (usteps_cons ?_ (usteps_cons ?_ (usteps_cons ?_ (usteps_cons ?_ usteps_nil)))))) (fun v wx hx hP hA => ?_)
  · refine ustep_mk (D := [some 9, some 10, some 11, some 12, some 6, some 7, none, none]) (Ti := []) rfl rfl rfl rfl (fun wx hx hP => ?_)
    have hl := hl0 wx ((Fr.drew (Fr.refl _ _)).trans hx)
    simp only [putD, List.getD_cons_zero, List.getD_cons_succ]
    go_wp2_with fail
    exact Q1.mk rfl _ rfl ⟨Fr.refl _ _, rfl, frok_no rfl⟩
  · refine ustep_mk (D := [some 9, some 10, some 11, some 12, some 6, some 7, none, none]) (Ti := [0]) rfl rfl rfl rfl (fun wx hx hP => ?_)
    have h0 : v 0 = .agg A := hP.1
    simp only [putD, List.getD_cons_zero, List.getD_cons_succ]
    go_wp2_with fail
    rw [HA.out]
    refine (split_any a _).mono ?_
    rintro e w4 ⟨rfl, hf4⟩
    rw [← HX.out]
    go_wp2_with fail
    exact Q1.mk rfl _ rfl ⟨hf4, rfl, frok_no rfl⟩
  · refine ustep_mk (D := [some 9, some 10, some 11, some 12, some 6, some 7, none, none]) (Ti := []) rfl rfl rfl rfl (fun wx hx hP => ?_)
    have hl := hl1 wx ((Fr.drew (Fr.refl _ _)).trans hx)
    simp only [putD, List.getD_cons_zero, List.getD_cons_succ]
    go_wp2_with fail
    exact Q1.mk rfl _ rfl ⟨Fr.refl _ _, rfl, frok_no rfl⟩
  · refine ustep_mk (D := [some 9, some 10, some 11, some 12, some 6, some 7, none, none]) (Ti := [0, 1, 2]) rfl rfl rfl rfl (fun wx hx hP => ?_)
    have h0 : v 2 = .agg B := hP.2.2.1
    simp only [putD, List.getD_cons_zero, List.getD_cons_succ]
    go_wp2_with fail
    rw [HB.out]
    refine (split_any b _).mono ?_
    rintro e w4 ⟨rfl, hf4⟩
    rw [← HY.out]
    go_wp2_with fail
    exact Q1.mk rfl _ rfl ⟨hf4, rfl, frok_no rfl⟩
  · refine ustep_mk (D := [some 9, some 10, some 11, some 12, some 6, some 7, none, none]) (Ti := []) rfl rfl rfl rfl (fun wx hx hP => ?_)
    simp only [putD, List.getD_cons_zero, List.getD_cons_succ]
    go_wp2_with fail
    exact Q1.mk rfl _ rfl ⟨(Fr.refl _ _).alloc _, pb_new hx.size, frok_new⟩
  · refine ustep_mk (D := [some 9, some 10, some 11, some 12, some 6, some 7, none, none]) (Ti := []) rfl rfl rfl rfl (fun wx hx hP => ?_)
    simp only [putD, List.getD_cons_zero, List.getD_cons_succ]
    go_wp2_with fail
    exact Q1.mk rfl _ rfl ⟨(Fr.refl _ _).alloc _, pb_new hx.size, frok_new⟩
  · have h0 : v 0 = .agg A := hP.1
    have h1 : v 1 = .agg X := hP.2.1
    have h2 : v 2 = .agg B := hP.2.2.1
    have h3 : v 3 = .agg Y := hP.2.2.2.1
    obtain ⟨g, h4, hg1, hg2⟩ : PB w2.heap.size 27 (zeroTail Try.prog 27 0) (v 4) wx := hP.2.2.2.2.1
    obtain ⟨k, h5, hk1, hk2⟩ : PB w2.heap.size 27 (zeroTail Try.prog 27 0) (v 5) wx := hP.2.2.2.2.2.1
    have hgk := apart_ptr hA h4 h5 rfl rfl (by decide)
    have hkg := Ne.symm hgk
    have o1 := hg2.ok hZs
    have o2 := hk2.ok hZs
    have HR := Lib.hid (And.intro hx (And.intro hg1 (And.intro hg2 (And.intro hk1 hk2))))
    clear hx hP hA hg1 hg2 hk1 hk2
    simp only [putD, List.getD_cons_zero, List.getD_cons_succ]
    have l1 : ldA (putW (putW wx g 0 X) k 0 Y) g 0 35 = some X := by rw [ldA_putW _ _ _ _ _ _ _ hgk]; exact ldA_same o1 hza
    have l2 : ldA (putW (putW wx g 0 X) k 0 Y) k 0 35 = some Y := ldA_same (by rw [okA_putW _ _ _ _ _ _ _ hkg]; exact o2) hzb
    have f1 : Fr0 w (putW (putW wx g 0 X) k 0 Y) := by
      obtain ⟨hx, hg1, hg2, hk1, hk2⟩ := HR.out
      have h0 : Fr0 w wx := HF.out.trans ((Fr.drew (Fr.refl _ _)).trans hx)
      exact (h0.put (S := fun _ => False) (fun h => by omega) _ _).put (S := fun _ => False) (fun h => by omega) _ _
    have LL := Lib.hid (And.intro l1 (And.intro l2 f1))
    clear l1 l2 f1
    refine reg_seq 25 2 [[], [0], [], [0, 1, 2], [], [], [0, 1, 2, 3, 4, 5], [0, 1, 2, 3, 4, 5, 6]] (by kernel_rfl) (by kernel_rfl) rfl rfl ?_
    go_wp2_with fail
    refine QR.mk (reg_end (by decide) ?_)
    go_wp2_with fail
    clear o1 o2 HR h0 h1 h2 h3 h4 h5 hl0 hl1
    obtain ⟨w5, hw5⟩ : ∃ w5, w5 = putW (putW wx g 0 X) k 0 Y := ⟨_, rfl⟩
    rw [← hw5] at LL ⊢
    rw [HX.out, HY.out] at LL
    clear hw5
    go_loopw [8, 13] (fun _ iv wr => ∃ c : Nat, c ≤ 35 ∧ iv = .int .i64 c ∧ (∃ m, wr = w5.drewN m) ∧ ∀ x, x < c → ¬ splN b.1 x < splN a.1 x) (fun _ iv _ => 35 - (intOf iv).toNat)
    case atStart => exact ⟨0, by omega, rfl, ⟨0, rfl⟩, fun x hx => by omega⟩
    case round =>
      obtain ⟨c, hc, rfl, ⟨m, rfl⟩, hall⟩ := hrel
      by_cases hlt : c < 35
      · have z0 : (c : Int) < 35 := by omega
        have c1 : w5.cell? ⟨g, c, none⟩ = some (.int .i64 (splN a.1 c : Int)) := nis_cell LL.out.1 hlt (splL_at hlt)
        have c2 : w5.cell? ⟨k, c, none⟩ = some (.int .i64 (splN b.1 c : Int)) := nis_cell LL.out.2.1 hlt (splL_at hlt)
        have z1 : (0 : Int) ≤ (c : Int) := by omega
        by_cases hp : splN b.1 c < splN a.1 c
        · have hlow := lowN_some hlt hall hp
          have HL := Lib.hid hlow
          obtain ⟨x, hx⟩ : ∃ x, x = splN a.1 c := ⟨_, rfl⟩
          obtain ⟨y, hy⟩ : ∃ x, x = splN b.1 c := ⟨_, rfl⟩
          rw [← hx] at c1 hp
          rw [← hy] at c2 hp
          have z2 : (y : Int) < (x : Int) := by omega
          clear hall hlow hx hy
          go_wp2_with fail
          go_quiet (fail)
          go_wp2_with fail
          go_ret2
          exact ⟨by rw [HL.out]; rfl, (LL.out.2.2.drewN _).drewN _⟩
        · have hall2 : ∀ x, x < c + 1 → ¬ splN b.1 x < splN a.1 x := fun x hx => by
            rcases Nat.eq_or_lt_of_le (Nat.le_of_lt_succ hx) with rfl | h
            · exact hp
            · exact hall x h
          have HA2 := Lib.hid hall2
          obtain ⟨x, hx⟩ : ∃ x, x = splN a.1 c := ⟨_, rfl⟩
          obtain ⟨y, hy⟩ : ∃ x, x = splN b.1 c := ⟨_, rfl⟩
          rw [← hx] at c1 hp
          rw [← hy] at c2 hp
          have z2 : ¬ (y : Int) < (x : Int) := by omega
          clear hall hall2 hx hy
          go_wp2_with fail
          go_quiet (fail)
          go_wp2_with fail
          clear c1 c2
          go_roundw
          case rel =>
            first
            | exact ⟨c + 1, by omega, by go_num, ⟨_, rfl⟩, HA2.out⟩
            | ((repeat apply Exists.intro); exact ⟨⟨c + 1, by omega, by go_num, ⟨_, rfl⟩, HA2.out⟩, rfl⟩)
          case measure => simp [intOf]; omega
      · have hc35 : c = 35 := by omega
        subst hc35
        have HL := Lib.hid (lowN_none hall)
        clear hall
        go_wp2_with fail
        go_ret2
        exact ⟨by rw [HL.out]; rfl, LL.out.2.2.drewN _⟩
end Go.Proofs.Ytjdbfedkadoklaa
