/- Chapter 06: MerkleBuilder: the walk. No condition. -/
import Derived.Test.YtnholkjgdpapbaaMkM
import Derived.Test.YtnholkjgdpapbaaMkN
import Derived.Test.YtnholkjgdpapbaaMkI
import Derived.Deep.CutRange
namespace Go.Proofs.Ytnholkjgdpapbaa
set_option linter.unusedVariables false
set_option linter.unusedSimpArgs false
set_option maxRecDepth 10000
open Go.RowKit
attribute [local go_sem ↓] Go.wp_at_zero Go.wp_at_succ

def PQ (p : List Nd) : Value → World → Prop := fun u w => ∃ A c, u = .slice A p.length c ∧ (eB 16).Rds w w.heap.size (.slice A p.length c) p
theorem PQ.stab (p : List Nd) : ∀ u w w', Fr (fun _ => False) w w' → PQ p u w → PQ p u w' := fun _ _ _ h ⟨A, c, h1, h2⟩ => ⟨A, c, h1, (h2.fr0 h).mono h.size⟩
theorem chk_ne {n : Nat} (h : ¬ chkN n = 0) (k : Nat) (hk : k < 11) : n ≠ 2 ^ k := fun e => h (by rw [e]; exact chk_pow (by omega))
theorem broot_ok (l : List Nd) (h : chkN l.length = 0) : brootY l = (rootY l, 0) := by
  obtain ⟨k, hp, hl, hk⟩ := chk_ok h
  unfold brootY pendY rootY
  rw [if_pos h, hp, hl, Mk.pend_pow, if_pos (by omega)]
  rfl
theorem broot_no (l : List Nd) (hn : l.length ≤ 1024) (h : ¬ chkN l.length = 0) : brootY l = (z16N, 10) ∧ rootY l = z16N := by
  refine ⟨?_, if_neg h⟩
  have h1 : ¬ (pendY l).length = 1 := fun e => by
    obtain ⟨k, hk, he⟩ := (Mk.pend_length_one jn l l.length 11 (by omega)).1 e
    exact chk_ne h k hk he
  unfold brootY
  match hp : pendY l with
  | [x] => rw [hp] at h1; exact absurd rfl h1
  | [] => rfl
  | _ :: _ :: _ => rfl

def TT912 : List (List Nat) := [[], [0], [], [0, 1, 2], [0, 1, 2, 3], [0, 1, 2, 3, 4], [0, 1, 2, 3, 4, 5], [0, 1, 2, 3, 4], [0, 1, 2, 3, 4], [0, 1, 2, 3, 4, 7, 8], [0, 1, 2, 3, 4, 5, 6, 7, 8, 9], [0, 1, 2, 3, 4, 5, 6, 7, 8, 9, 10], [0, 1, 2, 3, 4, 5, 6, 7, 8, 9, 10, 11], [0, 1, 2, 3, 4, 5, 6, 7, 8, 9, 10, 11, 12]]

set_option maxHeartbeats 4000000 in
theorem builder_walk (l : List Nd) (A : Option Addr) (c : Nat) (w : World) (ha : Arg w w.heap.size A l.length c 16 (l.flatMap (eB 16).f)) :
    Calls Try.prog 9 #[.slice A l.length c] w fun e w' => e = .returned (.bool true) ∧ Below w.heap.size w w' := by
  have HS := Lib.hid (Arg.rds (E := eB 16) (by omega) ha)
  clear ha
  obtain ⟨L, HL⟩ := nm l.length
  rw [← HL.out] at HS ⊢
  by_cases hbig : 70 < L
  · have z0 : (70 : Int) < (L : Int) := by omega
    go_enter Try.func9, Try.ntmps9
    go_wp2_with fail
    refine (known_any _).mono ?_
    rintro e w2 ⟨rfl, hf⟩
    have HF2 := Lib.hid hf
    clear hf
    go_wp2_with fail
    refine (known_any _).mono ?_
    rintro e w3 ⟨rfl, hf⟩
    have HF3 := Lib.hid (HF2.out.trans hf)
    clear hf
    go_wp2_with fail
    go_ret
    exact ⟨rfl, Fr0.below HF3.out⟩
  · have z0 : ¬ (70 : Int) < (L : Int) := by omega
    go_enter Try.func9, Try.ntmps9
    go_wp2_with fail
    refine (known_any _).mono ?_
    rintro e w2 ⟨rfl, hf⟩
    have HF2 := Lib.hid hf
    clear hf
    go_wp2_with fail
    refine (newb_any _).mono ?_
    rintro e w3 ⟨rfl, hb3, hf⟩
    obtain ⟨wB, HWB⟩ := nm (eBd.new 72 w3 zBd)
    have HN1 := Lib.hid (show Bdr wB w2.heap.size [] by rw [HWB.out]; exact hb3.fr0 ((Fr.refl _ _).newE _ _ _))
    have HN2 := Lib.hid (show Bdr wB w3.heap.size [] by rw [HWB.out]; exact Bdr.new w3)
    have HFB := Lib.hid (show Fr0 w wB by rw [HWB.out]; exact (HF2.out.trans hf).newE _ _ _)
    have h12 : w2.heap.size < w3.heap.size := hb3.lt
    have h21 : w.heap.size ≤ w2.heap.size := HF2.out.size
    clear hb3 hf
    go_wp2_with fail
    rw [← HWB.out]
    clear HWB
    obtain ⟨b1, HG1⟩ := nm w2.heap.size
    obtain ⟨b2, HG2⟩ := nm w3.heap.size
    rw [← HG1.out] at HN1 h12 h21 ⊢
    rw [← HG2.out] at HN2 h12 ⊢
    obtain ⟨q1, q2⟩ := HS.out.cap
    unfold maxLen at q2
    go_loopw [5] (fun v wr => ∃ i : Nat, v = .int .i64 (i : Int) ∧ i ≤ L + 1 ∧ RowKit.Hid (Bdr wr b1 (l.take i)) ∧ RowKit.Hid (Bdr wr b2 (l.take i)) ∧ RowKit.Hid (Fr0 w wr)) (fun v _ => L + 1 - (intOf v).toNat)
    case atStart => exact ⟨0, rfl, by omega, Lib.hid (by rw [List.take_zero]; exact HN1.out), Lib.hid (by rw [List.take_zero]; exact HN2.out), HFB⟩
    case round =>
      obtain ⟨i, rfl, hi, HB1, HB2, HF⟩ := hrel
      by_cases hle : i ≤ L
      · have z2 : (i : Int) ≤ (L : Int) := by omega
        have z3 : (i : Int) ≤ (c : Int) := by omega
        have z4 : i ≤ c := by omega
        have HLI := Lib.hid (show (l.take i).length = i by rw [List.length_take]; have := HL.out; omega)
        have HRI := Lib.hid (HS.out.take i (by have := HL.out; omega))
        by_cases hE : chkN i = 0
        · skip
          have HE := Lib.hid (show brootY (l.take i) = (rootY (l.take i), 0) ∧ chkN i = 0 from ⟨broot_ok _ (by rw [HLI.out]; exact hE), hE⟩)
          obtain ⟨r, HR⟩ := nm (rootY (l.take i))
          rw [← HR.out] at HE
          clear hE
          go_wp2_with fail
          refine (broot_any b1 _ _ HB1.out).mono ?_
          rintro e w1 ⟨rfl, hf1⟩
          rw [HE.out.1]
          have h6 : (eB 16).at_ ((eB 16).new 27 w1 r) w1.heap.size 0 = some r := by simp
          obtain ⟨wa, HWA⟩ := nm ((eB 16).new 27 w1 r)
          have hsa : w1.heap.size < wa.heap.size := by rw [HWA.out]; simp
          have hfa : Fr0 wr wa := by rw [HWA.out]; exact hf1.newE _ _ _
          rw [← HWA.out] at h6
          go_wp2_with fail
          rw [← HWA.out]
          clear HWA
          go_wp2_with fail
          refine (rroot_any (l.take i) w.heap.size A i c wa (HRI.out.fr0 (HF.out.trans hfa)) (by omega)).mono ?_
          rintro e w2 ⟨rfl, hf2⟩
          rw [← HR.out, HE.out.2]
          have h6' : (eB 16).at_ ((eB 16).new 24 w2 r) w1.heap.size 0 = some r := by
            rw [(eB 16).at_newOld _ _ _ (Nat.lt_of_lt_of_le hsa hf2.size), (eB 16).at_fr hf2 _ _ hsa]; exact h6
          have h8 : (eB 16).at_ ((eB 16).new 24 w2 r) w2.heap.size 0 = some r := by simp
          obtain ⟨wA, HWA⟩ := nm ((eB 16).new 24 w2 r)
          have HFA := Lib.hid (show Fr0 wr wA by rw [HWA.out]; exact (hfa.trans hf2).newE _ _ _)
          have HBA := Lib.hid (And.intro (HB1.out.fr0 HFA.out) (HB2.out.fr0 HFA.out))
          clear h6 hsa hfa hf1 hf2
          go_wp2_with fail
          rw [← HWA.out]
          clear HWA
          obtain ⟨q, HQ⟩ := nm (pendY (l.take i))
          clear h6' h8
          refine reg_start (by kernel_rfl) ?_
          refine reg_uno (D := [some 55, some 56, some 57, some 58, some 59, some 60, some 61, some 62, some 63, some 64, some 65, some 66, some 67, some 68]) (J := [0, 1, 2]) 3 [] [PV (.pointer (some ⟨b1, 0, none⟩)), PV (.int .i64 (i : Int)), PV (.int .i64 (i : Int))] TT912 (by kernel_rfl) (by kernel_rfl) (by kernel_rfl) rfl rfl rfl
            (stab_cons (PV.stab _) (stab_cons (PV.stab _) (stab_cons (PV.stab _) stab_nil)))
            (fun v => usteps_cons ?_ (usteps_cons ?_ (usteps_cons ?_ (usteps_nil)))) (fun v wx hx hP hA => ?_)
          · refine ustep_mk (D := [some 55, some 56, some 57, some 58, some 59, some 60, some 61, some 62, some 63, some 64, some 65, some 66, some 67, some 68]) (Ti := []) rfl rfl rfl rfl (fun wx hx hP => ?_)   -- 0: move (tmp 3)
            clear hP
            simp only [putD, List.getD_cons_zero, List.getD_cons_succ]
            go_wp2_with fail
            exact Q1.mk rfl _ rfl ⟨Fr.refl _ _, rfl, frok_no rfl⟩
          · refine ustep_mk (D := [some 55, some 56, some 57, some 58, some 59, some 60, some 61, some 62, some 63, some 64, some 65, some 66, some 67, some 68]) (Ti := [0]) rfl rfl rfl rfl (fun wx hx hP => ?_)   -- 1: call { callee := Callee.value (func 30), args := #
            have h0 : v 0 = .pointer (some ⟨b1, 0, none⟩) := hP.1
            clear hP
            simp only [putD, List.getD_cons_zero, List.getD_cons_succ]
            go_wp2_with fail
            refine (blen_any b1 _ _ (HBA.out.1.fr0 ((Fr.drew (Fr.refl _ _)).trans hx))).mono ?_
            rintro e wy ⟨rfl, hfy⟩
            rw [HLI.out]
            go_wp2_with fail
            exact Q1.mk rfl _ rfl ⟨hfy, rfl, frok_no rfl⟩
          · refine ustep_mk (D := [some 55, some 56, some 57, some 58, some 59, some 60, some 61, some 62, some 63, some 64, some 65, some 66, some 67, some 68]) (Ti := []) rfl rfl rfl rfl (fun wx hx hP => ?_)   -- 2: move (tmp 5)
            clear hP
            simp only [putD, List.getD_cons_zero, List.getD_cons_succ]
            go_wp2_with fail
            exact Q1.mk rfl _ rfl ⟨Fr.refl _ _, rfl, frok_no rfl⟩
          have h0 : v 0 = .pointer (some ⟨b1, 0, none⟩) := hP.1
          have h1 : v 1 = .int .i64 (i : Int) := hP.2.1
          have h2 : v 2 = .int .i64 (i : Int) := hP.2.2.1
          have f1 : Fr0 wA wx := (Fr.drew (Fr.refl _ _)).trans hx
          clear hx hA
          clear hP
          simp only [putD, List.getD_cons_zero, List.getD_cons_succ]
          refine reg_seq' 100 2 TT912 (by kernel_rfl) (by kernel_rfl) ?_
          simp only [List.drop_succ_cons, List.drop_zero, List.take_succ_cons, List.take_zero]
          go_wp2_with fail
          refine QR.mk ?_
          refine reg_uno (D := [some 55, some 56, some 57, some 58, some 59, some 60, some 61, some 62, some 63, some 64, some 65, some 66, some 67, some 68]) (J := [5, 6, 7, 8, 9]) 10 [] [PV (.pointer (some ⟨b1, 0, none⟩)), PQ q, PV (.slice A L c), PV (.int .i64 (i : Int)), PV (.slice A i c)] TT912 (by kernel_rfl) (by kernel_rfl) (by kernel_rfl) rfl rfl rfl
            (stab_cons (PV.stab _) (stab_cons (PQ.stab q) (stab_cons (PV.stab _) (stab_cons (PV.stab _) (stab_cons (PV.stab _) stab_nil)))))
            (fun v => usteps_cons ?_ (usteps_cons ?_ (usteps_cons ?_ (usteps_cons ?_ (usteps_cons ?_ (usteps_nil)))))) (fun v wx hx hP hA => ?_)
          · refine ustep_mk (D := [some 55, some 56, some 57, some 58, some 59, some 60, some 61, some 62, some 63, some 64, some 65, some 66, some 67, some 68]) (Ti := []) rfl rfl rfl rfl (fun wx hx hP => ?_)   -- 5: move (tmp 3)
            clear hP
            simp only [putD, List.getD_cons_zero, List.getD_cons_succ]
            go_wp2_with fail
            exact Q1.mk rfl _ rfl ⟨Fr.refl _ _, rfl, frok_no rfl⟩
          · refine ustep_mk (D := [some 55, some 56, some 57, some 58, some 59, some 60, some 61, some 62, some 63, some 64, some 65, some 66, some 67, some 68]) (Ti := [5]) rfl rfl rfl rfl (fun wx hx hP => ?_)   -- 6: call { callee := Callee.value (func 31), args := #
            have h5 : v 5 = .pointer (some ⟨b1, 0, none⟩) := hP.1
            clear hP
            simp only [putD, List.getD_cons_zero, List.getD_cons_succ]
            go_wp2_with fail
            refine (mpend_any b1 _ _ (HBA.out.1.fr0 (f1.trans hx))).mono ?_
            rintro e wy ⟨Az, Lz, cz, rfl, hoz, _, hfy⟩
            rw [← HQ.out] at hoz
            have hrz := hoz.rds (by omega)
            obtain rfl := hoz.len
            go_wp2_with fail
            exact Q1.mk rfl _ rfl ⟨hfy, ⟨_, _, rfl, hrz⟩, frok_no rfl⟩
          · refine ustep_mk (D := [some 55, some 56, some 57, some 58, some 59, some 60, some 61, some 62, some 63, some 64, some 65, some 66, some 67, some 68]) (Ti := []) rfl rfl rfl rfl (fun wx hx hP => ?_)   -- 7: move (tmp 0)
            clear hP
            simp only [putD, List.getD_cons_zero, List.getD_cons_succ]
            go_wp2_with fail
            exact Q1.mk rfl _ rfl ⟨Fr.refl _ _, rfl, frok_no rfl⟩
          · refine ustep_mk (D := [some 55, some 56, some 57, some 58, some 59, some 60, some 61, some 62, some 63, some 64, some 65, some 66, some 67, some 68]) (Ti := []) rfl rfl rfl rfl (fun wx hx hP => ?_)   -- 8: move (tmp 5)
            clear hP
            simp only [putD, List.getD_cons_zero, List.getD_cons_succ]
            go_wp2_with fail
            exact Q1.mk rfl _ rfl ⟨Fr.refl _ _, rfl, frok_no rfl⟩
          · refine ustep_mk (D := [some 55, some 56, some 57, some 58, some 59, some 60, some 61, some 62, some 63, some 64, some 65, some 66, some 67, some 68]) (Ti := [7, 8]) rfl rfl rfl rfl (fun wx hx hP => ?_)   -- 9: slice 33 (tmp 62) none (some (tmp 63)) none
            have h7 : v 7 = .slice A L c := hP.1
            have h8 : v 8 = .int .i64 (i : Int) := hP.2.1
            clear hP
            simp only [putD, List.getD_cons_zero, List.getD_cons_succ]
            go_wp2_with fail
            exact Q1.mk rfl _ rfl ⟨Fr.refl _ _, rfl, frok_no rfl⟩
          have h5 : v 5 = .pointer (some ⟨b1, 0, none⟩) := hP.1
          obtain ⟨Ay, cy, h6, hy6⟩ := hP.2.1
          have h7 : v 7 = .slice A L c := hP.2.2.1
          have h8 : v 8 = .int .i64 (i : Int) := hP.2.2.2.1
          have h9 : v 9 = .slice A i c := hP.2.2.2.2.1
          have f2 := f1.trans hx
          clear hx hA f1
          clear hP
          simp only [putD, List.getD_cons_zero, List.getD_cons_succ]
          refine reg_seq' 100 4 TT912 (by kernel_rfl) (by kernel_rfl) ?_
          simp only [List.drop_succ_cons, List.drop_zero, List.take_succ_cons, List.take_zero]
          go_wp2_with fail
          refine (rpend_any _ w.heap.size A i c wx ((HRI.out.fr0 (HF.out.trans (HFA.out.trans f2)))) (by omega)).mono ?_
          rintro e w5 ⟨A5, L5, c5, rfl, ho5, _, hf5⟩
          rw [← HQ.out] at ho5
          have hr5 := ho5.rds (by omega)
          go_wp2_with fail
          refine (same_any q q _ _ Ay A5 _ L5 cy c5 w5 (hy6.fr0 hf5) hr5).mono ?_
          rintro e w6 ⟨rfl, hf6⟩
          have HF6 := Lib.hid (f2.trans (hf5.trans hf6))
          rw [decide_eq_true rfl]
          clear f2 hf5 hf6 ho5 hr5 hy6
          go_wp2_with fail
          refine QR.mk ?_
          refine reg_end (by decide) ?_
          by_cases hlt : i < L
          · have z1 : (i : Int) < (L : Int) := by omega
            have HX := Lib.hid (show l.take (i + 1) = l.take i ++ [l.getD i default] by
              rw [List.take_succ_eq_append_getElem (by have := HL.out; omega)]; simp [List.getD, List.getElem?_eq_getElem (show i < l.length by have := HL.out; omega)])
            obtain ⟨bo, oo, rfl, _, hbo3, hx⟩ := HS.out.atq (by have := HL.out; omega)
            have hx := hx i (l.getD i default) (by rw [List.getD, List.getElem?_eq_getElem (show i < l.length by have := HL.out; omega)]; rfl)
            obtain ⟨x, HXX⟩ := nm (l.getD i default)
            rw [← HXX.out] at hx HX
            have hfx := HF.out.trans (HFA.out.trans HF6.out)
            have hx1 := ((eB 16).at_fr hfx _ _ hbo3).trans hx
            have HO := Lib.hid (And.intro hbo3 hx)
            have HZ1 := Lib.hid (And.intro (HBA.out.1.fr0 HF6.out) (HBA.out.2.fr0 HF6.out))
            have HFX := Lib.hid hfx
            clear hx hbo3 hfx
            go_wp2_with fail
            refine (add_any b1 (l.take i) x _ HZ1.out.1 (by rw [HLI.out]; omega)).mono ?_
            rintro e w7 ⟨rfl, hb7, hf7⟩
            have hx2 := ((eB 16).at_frS hf7 _ _ ((eB 16).at_lt hx1) (by have := HO.out.1; omega)).trans hx1
            have HZ2 := Lib.hid (And.intro (show Bdr w7 b1 (l.take (i + 1)) by rw [HX.out]; exact hb7) (HZ1.out.2.fr hf7 (by omega)))
            have HF7 := Lib.hid (show Fr0 w w7 from HFX.out.then_ hf7 (fun j hj e => by omega))
            clear hb7 hf7 hx1
            go_wp2_with fail
            refine (add_any b2 (l.take i) x _ HZ2.out.2 (by rw [HLI.out]; omega)).mono ?_
            rintro e w8 ⟨rfl, hb8, hf8⟩
            have HZ3 := Lib.hid (And.intro (HZ2.out.1.fr hf8 (by omega)) (show Bdr w8 b2 (l.take (i + 1)) by rw [HX.out]; exact hb8))
            have HF8 := Lib.hid (show Fr0 w w8 from HF7.out.then_ hf8 (fun j hj e => by omega))
            clear hb8 hf8 hx2
            go_wp2_with fail
            go_roundw
            case rel =>
              first
              | exact ⟨i + 1, by go_num, by omega, Lib.hid HZ3.out.1, Lib.hid HZ3.out.2, HF8⟩
              | ((repeat apply Exists.intro); exact ⟨⟨i + 1, by go_num, by omega, Lib.hid HZ3.out.1, Lib.hid HZ3.out.2, HF8⟩, rfl⟩)
            case measure => simp [intOf]; omega
          · have z1 : ¬ (i : Int) < (L : Int) := by omega
            have HX := Lib.hid (show l.take (i + 1) = l.take i by rw [List.take_of_length_le (by have := HL.out; omega), List.take_of_length_le (by have := HL.out; omega)])
            have HZ3 := Lib.hid (And.intro (HBA.out.1.fr0 HF6.out) (HBA.out.2.fr0 HF6.out))
            have HF8 := Lib.hid (HF.out.trans (HFA.out.trans HF6.out))
            rw [← HX.out] at HZ3
            go_wp2_with fail
            go_roundw
            case rel =>
              first
              | exact ⟨i + 1, by go_num, by omega, Lib.hid HZ3.out.1, Lib.hid HZ3.out.2, HF8⟩
              | ((repeat apply Exists.intro); exact ⟨⟨i + 1, by go_num, by omega, Lib.hid HZ3.out.1, Lib.hid HZ3.out.2, HF8⟩, rfl⟩)
            case measure => simp [intOf]; omega
        · skip
          have HE := Lib.hid (show (brootY (l.take i) = (z16N, 10) ∧ rootY (l.take i) = z16N) from broot_no _ (by rw [HLI.out]; omega) (by rw [HLI.out]; exact hE))
          obtain ⟨r, HR⟩ := nm z16N
          obtain ⟨E, HEE⟩ := nm (chkN i)
          have hE' : (E == 0) = false := by rw [HEE.out]; simpa using hE
          rw [← HR.out] at HE
          clear hE
          go_wp2_with fail
          refine (broot_any b1 _ _ HB1.out).mono ?_
          rintro e w1 ⟨rfl, hf1⟩
          rw [HE.out.1]
          have h6 : (eB 16).at_ ((eB 16).new 27 w1 r) w1.heap.size 0 = some r := by simp
          obtain ⟨wa, HWA⟩ := nm ((eB 16).new 27 w1 r)
          have hsa : w1.heap.size < wa.heap.size := by rw [HWA.out]; simp
          have hfa : Fr0 wr wa := by rw [HWA.out]; exact hf1.newE _ _ _
          rw [← HWA.out] at h6
          go_wp2_with fail
          rw [← HWA.out]
          clear HWA
          go_wp2_with fail
          refine (rroot_any (l.take i) w.heap.size A i c wa (HRI.out.fr0 (HF.out.trans hfa)) (by omega)).mono ?_
          rintro e w2 ⟨rfl, hf2⟩
          rw [HE.out.2, ← HEE.out]
          have h6' : (eB 16).at_ ((eB 16).new 24 w2 r) w1.heap.size 0 = some r := by
            rw [(eB 16).at_newOld _ _ _ (Nat.lt_of_lt_of_le hsa hf2.size), (eB 16).at_fr hf2 _ _ hsa]; exact h6
          have h8 : (eB 16).at_ ((eB 16).new 24 w2 r) w2.heap.size 0 = some r := by simp
          obtain ⟨wA, HWA⟩ := nm ((eB 16).new 24 w2 r)
          have HFA := Lib.hid (show Fr0 wr wA by rw [HWA.out]; exact (hfa.trans hf2).newE _ _ _)
          have HBA := Lib.hid (And.intro (HB1.out.fr0 HFA.out) (HB2.out.fr0 HFA.out))
          clear h6 hsa hfa hf1 hf2
          go_wp2_with fail
          rw [← HWA.out]
          clear HWA
          obtain ⟨q, HQ⟩ := nm (pendY (l.take i))
          clear h6' h8
          refine reg_start (by kernel_rfl) ?_
          refine reg_uno (D := [some 55, some 56, some 57, some 58, some 59, some 60, some 61, some 62, some 63, some 64, some 65, some 66, some 67, some 68]) (J := [0, 1, 2]) 3 [] [PV (.pointer (some ⟨b1, 0, none⟩)), PV (.int .i64 (i : Int)), PV (.int .i64 (i : Int))] TT912 (by kernel_rfl) (by kernel_rfl) (by kernel_rfl) rfl rfl rfl
            (stab_cons (PV.stab _) (stab_cons (PV.stab _) (stab_cons (PV.stab _) stab_nil)))
            (fun v => usteps_cons ?_ (usteps_cons ?_ (usteps_cons ?_ (usteps_nil)))) (fun v wx hx hP hA => ?_)
          · refine ustep_mk (D := [some 55, some 56, some 57, some 58, some 59, some 60, some 61, some 62, some 63, some 64, some 65, some 66, some 67, some 68]) (Ti := []) rfl rfl rfl rfl (fun wx hx hP => ?_)   -- 0: move (tmp 3)
            clear hP
            simp only [putD, List.getD_cons_zero, List.getD_cons_succ]
            go_wp2_with fail
            exact Q1.mk rfl _ rfl ⟨Fr.refl _ _, rfl, frok_no rfl⟩
          · refine ustep_mk (D := [some 55, some 56, some 57, some 58, some 59, some 60, some 61, some 62, some 63, some 64, some 65, some 66, some 67, some 68]) (Ti := [0]) rfl rfl rfl rfl (fun wx hx hP => ?_)   -- 1: call { callee := Callee.value (func 30), args := #
            have h0 : v 0 = .pointer (some ⟨b1, 0, none⟩) := hP.1
            clear hP
            simp only [putD, List.getD_cons_zero, List.getD_cons_succ]
            go_wp2_with fail
            refine (blen_any b1 _ _ (HBA.out.1.fr0 ((Fr.drew (Fr.refl _ _)).trans hx))).mono ?_
            rintro e wy ⟨rfl, hfy⟩
            rw [HLI.out]
            go_wp2_with fail
            exact Q1.mk rfl _ rfl ⟨hfy, rfl, frok_no rfl⟩
          · refine ustep_mk (D := [some 55, some 56, some 57, some 58, some 59, some 60, some 61, some 62, some 63, some 64, some 65, some 66, some 67, some 68]) (Ti := []) rfl rfl rfl rfl (fun wx hx hP => ?_)   -- 2: move (tmp 5)
            clear hP
            simp only [putD, List.getD_cons_zero, List.getD_cons_succ]
            go_wp2_with fail
            exact Q1.mk rfl _ rfl ⟨Fr.refl _ _, rfl, frok_no rfl⟩
          have h0 : v 0 = .pointer (some ⟨b1, 0, none⟩) := hP.1
          have h1 : v 1 = .int .i64 (i : Int) := hP.2.1
          have h2 : v 2 = .int .i64 (i : Int) := hP.2.2.1
          have f1 : Fr0 wA wx := (Fr.drew (Fr.refl _ _)).trans hx
          clear hx hA
          clear hP
          simp only [putD, List.getD_cons_zero, List.getD_cons_succ]
          refine reg_seq' 100 2 TT912 (by kernel_rfl) (by kernel_rfl) ?_
          simp only [List.drop_succ_cons, List.drop_zero, List.take_succ_cons, List.take_zero]
          go_wp2_with fail
          refine QR.mk ?_
          refine reg_uno (D := [some 55, some 56, some 57, some 58, some 59, some 60, some 61, some 62, some 63, some 64, some 65, some 66, some 67, some 68]) (J := [5, 6, 7, 8, 9]) 10 [] [PV (.pointer (some ⟨b1, 0, none⟩)), PQ q, PV (.slice A L c), PV (.int .i64 (i : Int)), PV (.slice A i c)] TT912 (by kernel_rfl) (by kernel_rfl) (by kernel_rfl) rfl rfl rfl
            (stab_cons (PV.stab _) (stab_cons (PQ.stab q) (stab_cons (PV.stab _) (stab_cons (PV.stab _) (stab_cons (PV.stab _) stab_nil)))))
            (fun v => usteps_cons ?_ (usteps_cons ?_ (usteps_cons ?_ (usteps_cons ?_ (usteps_cons ?_ (usteps_nil)))))) (fun v wx hx hP hA => ?_)
          · refine ustep_mk (D := [some 55, some 56, some 57, some 58, some 59, some 60, some 61, some 62, some 63, some 64, some 65, some 66, some 67, some 68]) (Ti := []) rfl rfl rfl rfl (fun wx hx hP => ?_)   -- 5: move (tmp 3)
            clear hP
            simp only [putD, List.getD_cons_zero, List.getD_cons_succ]
            go_wp2_with fail
            exact Q1.mk rfl _ rfl ⟨Fr.refl _ _, rfl, frok_no rfl⟩
          · refine ustep_mk (D := [some 55, some 56, some 57, some 58, some 59, some 60, some 61, some 62, some 63, some 64, some 65, some 66, some 67, some 68]) (Ti := [5]) rfl rfl rfl rfl (fun wx hx hP => ?_)   -- 6: call { callee := Callee.value (func 31), args := #
            have h5 : v 5 = .pointer (some ⟨b1, 0, none⟩) := hP.1
            clear hP
            simp only [putD, List.getD_cons_zero, List.getD_cons_succ]
            go_wp2_with fail
            refine (mpend_any b1 _ _ (HBA.out.1.fr0 (f1.trans hx))).mono ?_
            rintro e wy ⟨Az, Lz, cz, rfl, hoz, _, hfy⟩
            rw [← HQ.out] at hoz
            have hrz := hoz.rds (by omega)
            obtain rfl := hoz.len
            go_wp2_with fail
            exact Q1.mk rfl _ rfl ⟨hfy, ⟨_, _, rfl, hrz⟩, frok_no rfl⟩
          · refine ustep_mk (D := [some 55, some 56, some 57, some 58, some 59, some 60, some 61, some 62, some 63, some 64, some 65, some 66, some 67, some 68]) (Ti := []) rfl rfl rfl rfl (fun wx hx hP => ?_)   -- 7: move (tmp 0)
            clear hP
            simp only [putD, List.getD_cons_zero, List.getD_cons_succ]
            go_wp2_with fail
            exact Q1.mk rfl _ rfl ⟨Fr.refl _ _, rfl, frok_no rfl⟩
          · refine ustep_mk (D := [some 55, some 56, some 57, some 58, some 59, some 60, some 61, some 62, some 63, some 64, some 65, some 66, some 67, some 68]) (Ti := []) rfl rfl rfl rfl (fun wx hx hP => ?_)   -- 8: move (tmp 5)
            clear hP
            simp only [putD, List.getD_cons_zero, List.getD_cons_succ]
            go_wp2_with fail
            exact Q1.mk rfl _ rfl ⟨Fr.refl _ _, rfl, frok_no rfl⟩
          · refine ustep_mk (D := [some 55, some 56, some 57, some 58, some 59, some 60, some 61, some 62, some 63, some 64, some 65, some 66, some 67, some 68]) (Ti := [7, 8]) rfl rfl rfl rfl (fun wx hx hP => ?_)   -- 9: slice 33 (tmp 62) none (some (tmp 63)) none
            have h7 : v 7 = .slice A L c := hP.1
            have h8 : v 8 = .int .i64 (i : Int) := hP.2.1
            clear hP
            simp only [putD, List.getD_cons_zero, List.getD_cons_succ]
            go_wp2_with fail
            exact Q1.mk rfl _ rfl ⟨Fr.refl _ _, rfl, frok_no rfl⟩
          have h5 : v 5 = .pointer (some ⟨b1, 0, none⟩) := hP.1
          obtain ⟨Ay, cy, h6, hy6⟩ := hP.2.1
          have h7 : v 7 = .slice A L c := hP.2.2.1
          have h8 : v 8 = .int .i64 (i : Int) := hP.2.2.2.1
          have h9 : v 9 = .slice A i c := hP.2.2.2.2.1
          have f2 := f1.trans hx
          clear hx hA f1
          clear hP
          simp only [putD, List.getD_cons_zero, List.getD_cons_succ]
          refine reg_seq' 100 4 TT912 (by kernel_rfl) (by kernel_rfl) ?_
          simp only [List.drop_succ_cons, List.drop_zero, List.take_succ_cons, List.take_zero]
          go_wp2_with fail
          refine (rpend_any _ w.heap.size A i c wx ((HRI.out.fr0 (HF.out.trans (HFA.out.trans f2)))) (by omega)).mono ?_
          rintro e w5 ⟨A5, L5, c5, rfl, ho5, _, hf5⟩
          rw [← HQ.out] at ho5
          have hr5 := ho5.rds (by omega)
          go_wp2_with fail
          refine (same_any q q _ _ Ay A5 _ L5 cy c5 w5 (hy6.fr0 hf5) hr5).mono ?_
          rintro e w6 ⟨rfl, hf6⟩
          have HF6 := Lib.hid (f2.trans (hf5.trans hf6))
          rw [decide_eq_true rfl]
          clear f2 hf5 hf6 ho5 hr5 hy6
          go_wp2_with fail
          refine QR.mk ?_
          refine reg_end (by decide) ?_
          by_cases hlt : i < L
          · have z1 : (i : Int) < (L : Int) := by omega
            have HX := Lib.hid (show l.take (i + 1) = l.take i ++ [l.getD i default] by
              rw [List.take_succ_eq_append_getElem (by have := HL.out; omega)]; simp [List.getD, List.getElem?_eq_getElem (show i < l.length by have := HL.out; omega)])
            obtain ⟨bo, oo, rfl, _, hbo3, hx⟩ := HS.out.atq (by have := HL.out; omega)
            have hx := hx i (l.getD i default) (by rw [List.getD, List.getElem?_eq_getElem (show i < l.length by have := HL.out; omega)]; rfl)
            obtain ⟨x, HXX⟩ := nm (l.getD i default)
            rw [← HXX.out] at hx HX
            have hfx := HF.out.trans (HFA.out.trans HF6.out)
            have hx1 := ((eB 16).at_fr hfx _ _ hbo3).trans hx
            have HO := Lib.hid (And.intro hbo3 hx)
            have HZ1 := Lib.hid (And.intro (HBA.out.1.fr0 HF6.out) (HBA.out.2.fr0 HF6.out))
            have HFX := Lib.hid hfx
            clear hx hbo3 hfx
            go_wp2_with fail
            refine (add_any b1 (l.take i) x _ HZ1.out.1 (by rw [HLI.out]; omega)).mono ?_
            rintro e w7 ⟨rfl, hb7, hf7⟩
            have hx2 := ((eB 16).at_frS hf7 _ _ ((eB 16).at_lt hx1) (by have := HO.out.1; omega)).trans hx1
            have HZ2 := Lib.hid (And.intro (show Bdr w7 b1 (l.take (i + 1)) by rw [HX.out]; exact hb7) (HZ1.out.2.fr hf7 (by omega)))
            have HF7 := Lib.hid (show Fr0 w w7 from HFX.out.then_ hf7 (fun j hj e => by omega))
            clear hb7 hf7 hx1
            go_wp2_with fail
            refine (add_any b2 (l.take i) x _ HZ2.out.2 (by rw [HLI.out]; omega)).mono ?_
            rintro e w8 ⟨rfl, hb8, hf8⟩
            have HZ3 := Lib.hid (And.intro (HZ2.out.1.fr hf8 (by omega)) (show Bdr w8 b2 (l.take (i + 1)) by rw [HX.out]; exact hb8))
            have HF8 := Lib.hid (show Fr0 w w8 from HF7.out.then_ hf8 (fun j hj e => by omega))
            clear hb8 hf8 hx2
            go_wp2_with fail
            go_roundw
            case rel =>
              first
              | exact ⟨i + 1, by go_num, by omega, Lib.hid HZ3.out.1, Lib.hid HZ3.out.2, HF8⟩
              | ((repeat apply Exists.intro); exact ⟨⟨i + 1, by go_num, by omega, Lib.hid HZ3.out.1, Lib.hid HZ3.out.2, HF8⟩, rfl⟩)
            case measure => simp [intOf]; omega
          · have z1 : ¬ (i : Int) < (L : Int) := by omega
            have HX := Lib.hid (show l.take (i + 1) = l.take i by rw [List.take_of_length_le (by have := HL.out; omega), List.take_of_length_le (by have := HL.out; omega)])
            have HZ3 := Lib.hid (And.intro (HBA.out.1.fr0 HF6.out) (HBA.out.2.fr0 HF6.out))
            have HF8 := Lib.hid (HF.out.trans (HFA.out.trans HF6.out))
            rw [← HX.out] at HZ3
            go_wp2_with fail
            go_roundw
            case rel =>
              first
              | exact ⟨i + 1, by go_num, by omega, Lib.hid HZ3.out.1, Lib.hid HZ3.out.2, HF8⟩
              | ((repeat apply Exists.intro); exact ⟨⟨i + 1, by go_num, by omega, Lib.hid HZ3.out.1, Lib.hid HZ3.out.2, HF8⟩, rfl⟩)
            case measure => simp [intOf]; omega
      · have z2 : ¬ (i : Int) ≤ (L : Int) := by omega
        have HX := Lib.hid (show l.take i = l from List.take_of_length_le (by have := HL.out; omega))
        rw [HX.out] at HB1 HB2
        obtain ⟨q, HQ⟩ := nm (pendY l)
        go_wp2_with fail
        refine (blen_any b2 l _ HB2.out).mono ?_
        rintro e w4 ⟨rfl, hf4⟩
        have HF4 := Lib.hid (HF.out.trans hf4)
        have HB4 := Lib.hid (HB2.out.fr0 hf4)
        rw [← HL.out]
        clear hf4
        go_wp2_with fail
        refine (mpend_any b2 l _ HB4.out).mono ?_
        rintro e w5 ⟨A5, L5, c5, rfl, ho5, _, hf5⟩
        rw [← HQ.out] at ho5
        have HR5 := Lib.hid (ho5.rds (by omega))
        have HF5 := Lib.hid (HF4.out.trans hf5)
        clear ho5 hf5
        go_wp2_with fail
        refine (rpend_any l w.heap.size A L c _ (HS.out.fr0 HF5.out) (by omega)).mono ?_
        rintro e w6 ⟨A6, L6, c6, rfl, ho6, _, hf6⟩
        rw [← HQ.out] at ho6
        have HR6 := Lib.hid (And.intro (HR5.out.fr0 hf6) (ho6.rds (by omega)))
        have HF6 := Lib.hid (HF5.out.trans hf6)
        clear ho6 hf6
        go_wp2_with fail
        refine (same_any q q _ _ A5 A6 L5 L6 c5 c6 _ HR6.out.1 HR6.out.2).mono ?_
        rintro e w7 ⟨rfl, hf7⟩
        rw [decide_eq_true rfl]
        have HF7 := Lib.hid (HF6.out.trans hf7)
        clear hf7
        go_wp2_with fail
        go_ret
        exact ⟨rfl, Fr0.below HF7.out⟩
end Go.Proofs.Ytnholkjgdpapbaa
