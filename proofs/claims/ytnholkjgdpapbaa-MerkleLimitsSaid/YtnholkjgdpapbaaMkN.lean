/- Chapter 06: the reference's Pending. No condition beyond the length that is named. -/
import Derived.Test.YtnholkjgdpapbaaMkL
namespace Go.Proofs.Ytnholkjgdpapbaa
set_option linter.unusedVariables false
set_option linter.unusedSimpArgs false
set_option maxRecDepth 10000
open Go.RowKit
attribute [local go_sem ↓] Go.wp_at_zero Go.wp_at_succ

theorem mod_half {n k : Nat} : n % 2 ^ (k + 1) / 2 ^ k % 2 = (n >>> k) % 2 := by
  rw [Nat.pow_succ, Nat.mod_mul_right_div_self, Nat.mod_mod, Nat.shiftRight_eq_div_pow]
set_option maxHeartbeats 2000000 in
theorem rpend_any (l : List Nd) (B : Nat) (A : Option Addr) (L c : Nat) (w : World) (hs : (eB 16).Rds w B (.slice A L c) l) (hL : L ≤ 2000) : Calls Try.prog 32 #[.slice A L c] w fun e w' => ∃ A L c, e = .returned (.slice A L c) ∧ (eB 16).Own 24 w' w.heap.size A c L (pendY l) ∧ L ≤ 11 ∧ Fr0 w w' := by
  have hlen := hs.len
  have hcap := hs.cap
  have HS := Lib.hid hs
  obtain ⟨n, HN⟩ := nm l.length
  have hn : n ≤ 2000 := by rw [HN.out, hlen]; exact hL
  have hLn : L = n := by rw [HN.out]; exact hlen.symm
  subst hLn
  clear hs hlen
  go_enter Try.func32, Try.ntmps32
  go_wp2_with fail
  go_loopw [0, 3, 4] (fun x v iv wr => ∃ (H M m : Nat) (z : Int) (A0 A2 : Option Addr) (c0 c2 : Nat) (acc : List Nd), x = .slice A0 m c0 ∧ iv = .int .i64 z ∧ z = (H : Int) - 1 ∧ v = .slice A2 M c2 ∧ M + H ≤ 11 ∧ M ≤ c2 ∧ c2 ≤ maxLen ∧ m ≤ 2000 ∧ RowKit.Hid (m = L % 2 ^ H) ∧ RowKit.Hid ((eB 16).Rds w B (.slice A0 m c0) (l.drop (L - L % 2 ^ H))) ∧ RowKit.Hid ((eB 16).Own 24 wr w.heap.size A2 c2 M acc) ∧ RowKit.Hid (acc ++ Mk.pend jn l L H = pendY l) ∧ RowKit.Hid (Fr0 w wr)) (fun _ _ v _ => (intOf v + 1).toNat)
  case atStart =>
    have hm : L % 2 ^ 11 = L := Nat.mod_eq_of_lt (by omega)
    exact ⟨11, 0, L, 10, A, none, c, 0, [], rfl, rfl, by omega, rfl, by omega, by omega, by unfold maxLen; omega, by omega, Lib.hid hm.symm, Lib.hid (by rw [hm, Nat.sub_self, List.drop_zero]; exact HS.out), Lib.hid (Enc.Own.nil _ _ _ _), Lib.hid (by rw [HN.out, List.nil_append, pendY]), Lib.hid (Fr.refl _ _)⟩
  case round =>
    obtain ⟨H, M, m, z, A0, A2, c0, c2, acc, rfl, rfl, hz, rfl, hl, q3, q4, hm2, HM, HX, HO, HA, HF⟩ := hrel
    rcases H with _ | k
    · have z0 : ¬ (0 : Int) ≤ z := by omega
      clear hz
      go_wp2_with fail
      go_ret
      exact ⟨_, _, _, rfl, by have := HA.out; rw [Mk.pend, List.append_nil] at this; rw [← this]; exact HO.out, by omega, HF.out⟩
    · obtain rfl : z = (k : Int) := by omega
      clear hz
      have hshr := shr_nat m k (by omega)
      have hshr2 := shr_nat2 m k
      have HJ0 := Lib.hid (show (m >>> k) % 2 = (L >>> k) % 2 by rw [HM.out, Nat.shiftRight_eq_div_pow]; exact mod_half)
      have hj2 : m >>> k ≤ m := by rw [Nat.shiftRight_eq_div_pow]; exact Nat.div_le_self _ _
      obtain ⟨j, HJ⟩ := nm (m >>> k)
      rw [← HJ.out] at hshr hshr2 HJ0 hj2
      have hrem := tmod2 j
      rcases Nat.mod_two_eq_zero_or_one j with hb | hb
      · rw [hb] at hrem
        have hbit : Mk.bit L k = false := by unfold Mk.bit; rw [← HJ0.out, hb]; rfl
        have hms := Mk.mod_step L k
        rw [hbit, if_neg (by decide), Nat.zero_add] at hms
        go_wp2_with fail
        go_roundw
        case rel => exact ⟨k, M, m, _, A0, A2, c0, c2, acc, rfl, rfl, by go_num, rfl, by omega, q3, q4, hm2, Lib.hid (by rw [HM.out, hms]), Lib.hid (by rw [← hms]; exact HX.out), HO, Lib.hid (by have := HA.out; rw [Mk.pend, hbit] at this; simpa using this), HF⟩
        case measure => simp [intOf]
      · rw [hb] at hrem
        have hbit : Mk.bit L k = true := by unfold Mk.bit; rw [← HJ0.out, hb]; rfl
        have hms := Mk.mod_step L k
        rw [hbit, if_pos rfl] at hms
        have HP := Lib.hid (show acc ++ [Mk.pnode jn l L k] ++ Mk.pend jn l L k = pendY l by have := HA.out; rw [Mk.pend, hbit] at this; simpa using this)
        have HPN := Lib.hid (show nodeY ((l.drop (L - L % 2 ^ (k + 1))).take (2 ^ k)) k 0 = Mk.pnode jn l L k by
          have := Mk.pnode_drop jn l L k (by rw [HN.out]; exact Nat.le_refl _) hbit
          rwa [show l.take L = l from List.take_of_length_le (by rw [HN.out]; exact Nat.le_refl _)] at this)
        have hmP : 2 ^ k ≤ m := by rw [HM.out, hms]; omega
        have hdl : (l.drop (L - L % 2 ^ (k + 1))).length = m := HX.out.len
        have hXt := HX.out.take (2 ^ k) (by rw [hdl]; exact hmP)
        obtain ⟨b0, o0, rfl, hb0, hbw, _⟩ := HX.out.atq (by rw [hdl]; have := Nat.two_pow_pos k; omega)
        have hXd := HX.out.drop (2 ^ k) (by rw [hdl]; exact hmP)
        have hle : L % 2 ^ (k + 1) ≤ L := Nat.mod_le _ _
        rw [List.drop_drop, show L - L % 2 ^ (k + 1) + 2 ^ k = L - L % 2 ^ k by omega] at hXd
        have hshl := shl_nat k (by omega)
        have hshl2 := shl_nat64 k (by omega)
        have hmk : m - 2 ^ k = L % 2 ^ k := by rw [HM.out]; omega
        obtain ⟨p, HPP⟩ := nm (2 ^ k)
        rw [← HPP.out] at hmP hXt hXd hshl hshl2 HPN hmk
        obtain ⟨q5, q6⟩ := HX.out.cap
        obtain ⟨r, HR⟩ := nm (Mk.pnode jn l L k)
        have hXi : (eB 16).Rds w B (.slice (if c0 = p then some ⟨b0, o0, none⟩ else some ⟨b0, o0 + p * 16, none⟩) (m - p) (c0 - p)) (l.drop (L - L % p)) := by
          split
          · have hl0 := hXd.len
            have h0 : m - p = 0 := by omega
            rw [h0] at hl0 ⊢
            rw [List.length_eq_zero_iff.1 hl0]
            exact ⟨_, _, rfl, Nat.zero_le _, by omega, fun h => absurd h (by simp)⟩
          · exact hXd
        have HT := Lib.hid (And.intro hXt (And.intro hXi hmk))
        have z1 : (p : Int) ≤ (c0 : Int) := by omega
        have z2 : (p : Int) ≤ (m : Int) := by omega
        have z3 : p ≤ c0 := by omega
        unfold maxLen at q6
        clear hXt hXd hXi hdl hms hbit hle hmk
        go_wp2_with fail
        refine (rnode_any _ B (some ⟨b0, o0, none⟩) p c0 (by omega) k 0 wr (by omega) (by rw [HPP.out]; omega) (HT.out.1.fr0 HF.out)).mono ?_
        rintro e w5 ⟨rfl, hf5⟩
        rw [HPN.out, ← HR.out]
        obtain ⟨A3, c3, w3, hrun, ho3, hf3, q7, q8⟩ := Enc.Own.app1 eapok___bulletinref06_N (by omega) (HO.out.fr0 hf5) (HF.out.trans hf5) rfl r (by omega) (by unfold maxLen; omega)
        have HO3 := Lib.hid ho3
        have HF3 := Lib.hid hf3
        clear ho3 hf3 hf5
        go_wp2_with fail
        go_roundw
        case rel => exact ⟨k, M + 1, m - p, _, _, A3, c0 - p, c3, acc ++ [r], rfl, rfl, by go_num, rfl, by omega, q7, q8, by omega, Lib.hid (by rw [← HPP.out]; exact HT.out.2.2), Lib.hid (by rw [← HPP.out]; exact HT.out.2.1), HO3, Lib.hid (by rw [HR.out]; exact HP.out), HF3⟩
        case measure => simp [intOf]
end Go.Proofs.Ytnholkjgdpapbaa
