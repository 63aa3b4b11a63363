/- SHA-256: the reference: padded. No condition beyond the lengths that are named. -/
import Derived.Test.YtnholkjgdpapbaaShaF
namespace Go.Proofs.Ytnholkjgdpapbaa
set_option linter.unusedVariables false
set_option linter.unusedSimpArgs false
set_option maxRecDepth 10000
open Go.RowKit
attribute [local go_sem ↓] Go.wp_at_zero Go.wp_at_succ

set_option maxHeartbeats 2000000 in
theorem padded_any (l : List UInt8) (B : Nat) (v : Value) (w : World) (hs : Rd w B v l) (hl : l.length ≤ 1000000000) :
    Calls Try.prog 53 #[v] w fun e w' => ∃ A c, e = .returned (.slice A (padB l).length c) ∧ Sl w' 5 1 (.slice A (padB l).length c) (padB l).length (bs (padB l)) ∧ Fr0 w w' := by
  obtain ⟨Av, cv, rfl, hv1, hv2⟩ := hs.form
  obtain ⟨A1, c1, w1, hrun1, hown1, hG1, hge1, -⟩ := app_by (w.alloc (.cells #[] 5)) (own_bs0 w) (hs.alloc (.cells #[] 5)) (by simp; omega) (by simp)
  have hF1 : Fr0 w w1 := ((Fr.refl _ w).alloc _).then_ hG1 (fun i hi hk => by have := hge1 i hk; omega)
  rw [List.nil_append] at hrun1 hown1
  obtain ⟨A2, c2, w2, hrun2, hown2, hG2, hge2, -⟩ := app_by (w1.alloc (.cells #[u8 128] 5)) (own_fr0 hown1 ((Fr.refl _ _).alloc _)) (sl_bs1 w1 128) (by simp only [List.length_singleton]; omega) (by have := hF1.size; simp; omega)
  have hF2 : Fr0 w w2 := (hF1.alloc _).then_ hG2 (fun i hi hk => by have := hge2 i hk; omega)
  obtain ⟨N0, hN0⟩ : ∃ N, N = (l ++ [128]).length := ⟨_, rfl⟩
  rw [← hN0] at hrun2
  have HO := Lib.hid (show w2.ownsRow w.heap.size 5 1 (.slice A2 N0 c2) (l ++ pz 0).length (bs (l ++ pz 0)) from by rw [hN0]; exact hown2)
  have HF := Lib.hid hF2
  clear hs hown1 hown2 hG1 hG2 hge1 hge2 hF1 hF2 hN0
  have hzl := zs_lt l.length
  go_enter Try.func53, Try.ntmps53
  go_wp2_with fail
  clear hrun1 hrun2
  go_loopw [3] (fun vv wr => ∃ j : Nat, j ≤ zs l.length ∧ wr.ownsRow w.heap.size 5 1 vv (l ++ pz j).length (bs (l ++ pz j)) ∧ Fr0 w wr) (fun vv _ => match vv with | .slice _ n _ => l.length + 100 - n | _ => 0)
  case atStart => exact ⟨0, by omega, HO.out, HF.out⟩
  case round =>
    obtain ⟨j, hj, hown, hf⟩ := hrel
    obtain ⟨Ap, cp, rfl, hp1, hp2⟩ := own_form hown
    have hpl : (l ++ pz j).length = l.length + (j + 1) := by rw [List.length_append, pz_length]
    by_cases hlt : j < zs l.length
    · obtain ⟨A2, c2, w2, hrun2, hown2, hG2, hge2, -⟩ := app_by (wr.alloc (.cells #[Proofs.Ytnholkjgdpapbaa.u8 0] 5)) (own_fr0 hown ((Fr.refl _ _).alloc _)) (sl_bs1 wr 0) (by simp only [List.length_singleton]; omega) (by have := hf.size; simp; omega)
      have hF2 : Fr0 w w2 := (hf.alloc _).then_ hG2 (fun i hi hk => by have := hge2 i hk; omega)
      have hps : (l ++ pz j) ++ [0] = l ++ pz (j + 1) := by rw [pz_succ, List.append_assoc]
      rw [hps] at hrun2 hown2
      obtain ⟨N0, hN0⟩ : ∃ N, N = (l ++ pz (j + 1)).length := ⟨_, rfl⟩
      rw [← hN0] at hrun2
      have hpl2 : (l ++ pz (j + 1)).length = l.length + (j + 2) := by rw [List.length_append, pz_length]
      have hne := zs_go l.length j hlt
      have ht1 : ((((l ++ pz j).length : Int) % 64) != 56) = true := by rw [hpl]; simp; omega
      generalize hL1 : (l ++ pz j).length = L1 at *
      have HO2 := Lib.hid (show w2.ownsRow w.heap.size 5 1 (.slice A2 N0 c2) (l ++ pz (j + 1)).length (bs (l ++ pz (j + 1))) from by rw [hN0]; exact hown2)
      have HF2 := Lib.hid hF2
      have HPL2 := Lib.hid (hN0.trans hpl2)
      have HPL := Lib.hid hpl
      clear hown hown2 hG2 hge2 hF2 hne hpl hps hpl2 hL1 hN0
      go_wp2_with fail
      go_roundw
      case rel => exact ⟨j + 1, by omega, HO2.out, HF2.out⟩
      case measure => have := HPL2.out; have := HPL.out; simp only; omega
    · have hjz : j = zs l.length := by omega
      subst hjz
      have hne := zs_end l.length
      have ht1 : ((((l ++ pz (zs l.length)).length : Int) % 64) != 56) = false := by rw [hpl]; simp; omega
      have HO := Lib.hid hown
      have HF := Lib.hid hf
      clear hown hf hne hpl
      generalize hL1 : (l ++ pz (zs l.length)).length = L1 at *
      have HL1 := Lib.hid hL1
      clear hL1
      go_wp2_with fail
      clear ht1 hp1 hp2
      go_loopw [3, 5] (fun vv iv ws => ∃ m : Nat, m ≤ 8 ∧ iv = .int .i64 (7 - (m : Int)) ∧ ws.ownsRow w.heap.size 5 1 vv (l ++ pl l.length m).length (bs (l ++ pl l.length m)) ∧ Fr0 w ws) (fun _ iv _ => (intOf iv + 1).toNat)
      case atStart => exact ⟨0, by omega, rfl, by rw [pl_zero, HL1.out]; exact HO.out, HF.out⟩
      case round =>
        obtain ⟨m, hm, rfl, hown, hf⟩ := hrel
        obtain ⟨Aq, cq, rfl, hq1, hq2⟩ := own_form hown
        by_cases hlt : m < 8
        · have z1 : (0 : Int) ≤ 7 - (m : Int) := by omega
          obtain ⟨x, hx⟩ : ∃ x, x = UInt8.ofNat (l.length * 8 / 256 ^ (7 - m)) := ⟨_, rfl⟩
          have hby := len_byte l.length (7 - m)
          rw [← hx] at hby
          obtain ⟨A2, c2, w2, hrun2, hown2, hG2, hge2, -⟩ := app_by (wr.alloc (.cells #[Proofs.Ytnholkjgdpapbaa.u8 x] 5)) (own_fr0 hown ((Fr.refl _ _).alloc _)) (sl_bs1 wr x) (by rw [List.length_append, pl_length _ _ hm]; simp only [List.length_singleton]; omega) (by have := hf.size; simp; omega)
          have hF2 : Fr0 w w2 := (hf.alloc _).then_ hG2 (fun i hi hk => by have := hge2 i hk; omega)
          have hps := pl_succ l.length m hlt
          rw [← hx] at hps
          rw [List.append_assoc, ← hps] at hrun2 hown2
          generalize hL2 : (l ++ pl l.length m).length = L2 at *
          obtain ⟨N0, hN0⟩ : ∃ N, N = (l ++ pl l.length (m + 1)).length := ⟨_, rfl⟩
          rw [← hN0] at hrun2
          have HO2 := Lib.hid (show w2.ownsRow w.heap.size 5 1 (.slice A2 N0 c2) (l ++ pl l.length (m + 1)).length (bs (l ++ pl l.length (m + 1))) from by rw [hN0]; exact hown2)
          have HF2 := Lib.hid hF2
          clear hown hown2 hG2 hge2 hF2 hx hps hL2 hN0
          go_wp2_with fail
          go_roundw
          case rel => exact ⟨m + 1, by omega, by congr 1; omega, HO2.out, HF2.out⟩
          case measure => simp [intOf]; omega
        · have hm8 : m = 8 := by omega
          subst hm8
          have hpa : l ++ pl l.length 8 = padB l := by rw [pl_all]; rfl
          rw [hpa] at hown ⊢
          have HS8 := Lib.hid (Sl.of_own hown)
          have HF8 := Lib.hid hf
          clear hown hf hq1 hpa
          generalize hL2 : (padB l).length = L2 at *
          have HL2 := Lib.hid hL2
          clear hL2
          go_wp2_with fail
          go_ret
          rw [HL2.out]
          exact ⟨_, _, rfl, HS8.out, HF8.out⟩
end Go.Proofs.Ytnholkjgdpapbaa
