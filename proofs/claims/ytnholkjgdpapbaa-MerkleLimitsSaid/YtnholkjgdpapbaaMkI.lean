/- Chapter 06: MerkleRoot: the walk. No condition. -/
import Derived.Test.YtnholkjgdpapbaaMkH
namespace Go.Proofs.Ytnholkjgdpapbaa
set_option linter.unusedVariables false
set_option linter.unusedSimpArgs false
set_option maxRecDepth 10000
open Go.RowKit
attribute [local go_sem ↓] Go.wp_at_zero Go.wp_at_succ

set_option maxHeartbeats 2000000 in
theorem root_walk (l : List Nd) (A : Option Addr) (c : Nat) (i : Int) (w : World) (ha : Arg w w.heap.size A l.length c 16 (l.flatMap (eB 16).f)) :
    Calls Try.prog 5 #[.slice A l.length c, .int .i64 i] w fun e w' => e = .returned (.bool true) ∧ Below w.heap.size w w' := by
  have hr := Arg.rds (E := eB 16) (by omega) ha
  have HR := Lib.hid hr
  clear ha hr
  obtain ⟨L, HL⟩ := nm l.length
  rw [← HL.out] at HR ⊢
  by_cases h70 : 70 < L
  · have z0 : (70 : Int) < (L : Int) := by omega
    go_enter Try.func5, Try.ntmps5
    go_wp2_with fail
    refine (known_any _).mono ?_
    rintro e w1 ⟨rfl, hf1⟩
    have HF1 := Lib.hid hf1
    clear hf1
    go_wp2_with fail
    refine (known_any _).mono ?_
    rintro e w2 ⟨rfl, hf2⟩
    have HF2 := Lib.hid (HF1.out.trans hf2)
    clear hf2
    go_wp2_with fail
    go_ret
    exact ⟨rfl, Fr0.below HF2.out⟩
  · have z0 : ¬ (70 : Int) < (L : Int) := by omega
    go_enter Try.func5, Try.ntmps5
    go_wp2_with fail
    refine (known_any _).mono ?_
    rintro e w1 ⟨rfl, hf1⟩
    have HF1 := Lib.hid hf1
    clear hf1
    go_wp2_with fail
    refine (own_any l _ A L c _ (HR.out.fr0 HF1.out) (by omega)).mono ?_
    rintro e w2 ⟨A2, c2, rfl, ho, hf⟩
    have HO2 := Lib.hid (ho.rds (by omega))
    have HF2 := Lib.hid (HF1.out.trans hf)
    clear ho hf
    go_wp2_with fail
    refine (mroot_any l _ A2 L c2 _ HO2.out (by omega)).mono ?_
    rintro e w3 ⟨rfl, hf⟩
    obtain ⟨R, HRT⟩ := nm (rootY l)
    obtain ⟨E, HE⟩ := nm (chkN L)
    rw [← HRT.out, ← HE.out]
    have HF3 := Lib.hid (HF2.out.trans hf)
    clear hf
    go_wp2_with fail
    obtain ⟨wD, HD⟩ := nm ((eB 16).new 27 w3 R)
    have h5 : (eB 16).at_ wD w3.heap.size 0 = some R := by rw [HD.out]; simp
    have hfD : Fr0 w wD := by rw [HD.out]; exact HF3.out.newE _ _ _
    have H5 := Lib.hid (And.intro h5 hfD)
    rw [← HD.out]
    clear HD h5 hfD
    refine (rroot_any l _ A L c _ (HR.out.fr0 H5.out.2) (by omega)).mono ?_
    rintro e w4 ⟨rfl, hf⟩
    rw [← HRT.out, ← HE.out]
    obtain ⟨wE, HD⟩ := nm ((eB 16).new 24 w4 R)
    have h7 : (eB 16).at_ wE w4.heap.size 0 = some R := by rw [HD.out]; simp
    have hfE : Fr0 wD wE := by rw [HD.out]; exact hf.newE _ _ _
    have H7 := Lib.hid (And.intro h7 hfE)
    go_wp2_with fail
    rw [← HD.out]
    clear HD h7 hfE hf
    refine (own_any l _ A L c _ (HR.out.fr0 (H5.out.2.trans H7.out.2)) (by omega)).mono ?_
    rintro e w5 ⟨A5, c5, rfl, ho, hf⟩
    have HO5 := Lib.hid (ho.rds (by omega))
    have HF5 := Lib.hid hf
    clear ho hf
    go_wp2_with fail
    refine (mpath_any l i _ A5 L c5 _ HO5.out).mono ?_
    rintro e w6 ⟨A6, c6, rfl, ho, hf⟩
    obtain ⟨P, HP⟩ := nm (pathR l i)
    rw [← HP.out] at ho ⊢
    have HO6 := Lib.hid (ho.rds (by omega))
    have HF6 := Lib.hid (HF5.out.trans hf)
    obtain ⟨M, HM⟩ := nm P.1.length
    rw [← HM.out] at HO6 ⊢
    clear ho hf
    go_wp2_with fail
    refine (rpath_any l i _ A L c _ (HR.out.fr0 ((H5.out.2.trans H7.out.2).trans HF6.out)) (by omega)).mono ?_
    rintro e w7 ⟨A7, c7, rfl, ho, hf⟩
    rw [← HP.out] at ho ⊢
    rw [← HM.out] at ho ⊢
    have HO7 := Lib.hid (ho.rds (by omega))
    have HF7 := Lib.hid (HF6.out.trans hf)
    have HO6' := Lib.hid (HO6.out.fr0 hf)
    have a5 := ((eB 16).at_fr (H7.out.2.trans HF7.out) _ _ ((eB 16).at_lt H5.out.1)).trans H5.out.1
    have a7 := ((eB 16).at_fr HF7.out _ _ ((eB 16).at_lt H7.out.1)).trans H7.out.1
    clear ho hf
    go_wp2_with fail
    refine (same_any P.1 P.1 _ _ A6 A7 M M c6 c7 _ HO6'.out HO7.out).mono ?_
    rintro e w8 ⟨rfl, hf⟩
    rw [decide_eq_true rfl]
    have HF8 := Lib.hid ((H5.out.2.trans H7.out.2).trans (HF7.out.trans hf))
    clear hf
    go_wp2_with fail
    go_ret
    exact ⟨rfl, Fr0.below HF8.out⟩
end Go.Proofs.Ytnholkjgdpapbaa
