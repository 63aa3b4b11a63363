/- OnetimeRecovers: the law's walk. Printed by gen_lrec.py. No condition. -/
import Derived.Test.YtjdbfedkadoklaaOtSg
import Derived.Test.YtjdbfedkadoklaaOpenC
import Derived.BigRegion
import Derived.Deep.CutRange
namespace Go.Proofs.Ytjdbfedkadoklaa
set_option linter.unusedVariables false
set_option linter.unusedSimpArgs false
set_option maxRecDepth 100000
open Go.RowKit
attribute [local go_sem ↓] Go.wp_at_zero Go.wp_at_succ

def TT8 : List (List Nat) := [[], [0], [0, 1], [0, 1, 2], [0, 1, 2], [0, 1, 2], [0, 1, 2], [0, 1, 2], [0, 1, 2, 7], [0, 1, 2, 5, 6, 7, 8], [0, 1, 2, 4, 5, 6, 7, 8, 9], [0, 1, 2, 3, 4, 5, 6, 7, 8, 9, 10], [0, 1, 2, 3, 4, 5, 6, 7, 8, 9, 10, 11], [0, 1, 2, 3, 4, 5, 6, 7, 8, 9, 10, 11, 12], [0, 1, 2, 3, 4, 5, 6, 7, 8, 9, 10, 11, 12, 13], [0, 1, 2, 3, 4, 5, 6, 7, 8, 9, 10, 11, 12, 13], [0, 1, 2, 3, 4, 5, 6, 7, 8, 9, 10, 11, 12, 13], [0, 1, 2, 3, 4, 5, 6, 7, 8, 9, 10, 11, 12, 13], [0, 1, 2, 3, 4, 5, 6, 7, 8, 9, 10, 11, 12, 13, 14, 15, 16, 17], [0, 1, 2, 3, 4, 5, 6, 7, 8, 9, 10, 11, 12, 13, 14, 15, 16, 17, 18], [0, 1, 2, 3, 4, 5, 6, 7, 8, 9, 10, 11, 12, 13, 14, 15, 16, 17, 18, 19], [0, 1, 2, 3, 4, 5, 6, 7, 8, 9, 10, 11, 12, 13, 14, 15, 16, 17, 18, 19, 20], [0, 1, 2, 3, 4, 5, 6, 7, 8, 9, 10, 11, 12, 13, 14, 15, 16, 17, 18, 19, 20], [0, 1, 2, 3, 4, 5, 6, 7, 8, 9, 10, 11, 12, 13, 14, 15, 16, 17, 18, 19, 20], [0, 1, 2, 3, 4, 5, 6, 7, 8, 9, 10, 11, 12, 13, 14, 15, 16, 17, 18, 19, 20], [0, 1, 2, 3, 4, 5, 6, 7, 8, 9, 10, 11, 12, 13, 14, 15, 16, 17, 18, 19, 20, 21, 22, 23, 24], [0, 1, 2, 3, 4, 5, 6, 7, 8, 9, 10, 11, 12, 13, 14, 15, 16, 17, 18, 19, 20], [0, 1, 2, 3, 4, 5, 6, 7, 8, 9, 10, 11, 12, 13, 14, 15, 16, 17, 18, 19, 20], [0, 1, 2, 3, 4, 5, 6, 7, 8, 9, 10, 11, 12, 13, 14, 15, 16, 17, 18, 19, 20, 26, 27], [0, 1, 2, 3, 4, 5, 6, 7, 8, 9, 10, 11, 12, 13, 14, 15, 16, 17, 18, 19, 20, 21, 22, 23, 24, 25, 26, 27, 28], [0, 1, 2, 3, 4, 5, 6, 7, 8, 9, 10, 11, 12, 13, 14, 15, 16, 17, 18, 19, 20, 21, 22, 23, 24, 25, 26, 27, 28, 29], [0, 1, 2, 3, 4, 5, 6, 7, 8, 9, 10, 11, 12, 13, 14, 15, 16, 17, 18, 19, 20, 21, 22, 23, 24, 25, 26, 27, 28, 29, 30]]
set_option maxHeartbeats 2000000 in
theorem lrec_ok (leaf : Nat) (hl : leaf ≤ 65535) (p q : By 16) (l : List (By 16)) (A : Option Addr) (c : Nat) (w : World) (ha : Arg w w.heap.size A l.length c 16 (l.flatMap fun o : By 16 => bs o.1)) :
    Calls Try.prog 8 #[.int .i64 (leaf : Int), .agg (bs p.1 ++ bs q.1).toArray, .slice A l.length c] w fun e w' => e = .returned (.bool true) ∧ Fr0 w w' := by
  have hsp : (bs p.1).toArray.size = 16 := by simp [p.2]
  have hsq : (bs q.1).toArray.size = 16 := by simp [q.2]
  have hstp := a16_st p
  have hstq := a16_st q
  have hso : one1 (bs p.1 ++ bs q.1).toArray = true := all_one (by intro v hv; rcases List.mem_append.1 hv with h | h <;> exact bs_one' _ v h)
  have hcp : (bs p.1 ++ bs q.1).toArray.extract 0 16 = (bs p.1).toArray := by
    apply Array.toList_inj.1; simp only [List.extract_toArray, List.extract_eq_take_drop, List.drop_zero, Nat.sub_zero]; rw [List.take_append_of_le_length (by simp [p.2]), List.take_of_length_le (by simp [p.2])]
  have hcq : (bs p.1 ++ bs q.1).toArray.extract 16 32 = (bs q.1).toArray := by
    apply Array.toList_inj.1; simp only [List.extract_toArray, List.extract_eq_take_drop]; rw [List.drop_append, List.drop_of_length_le (by simp [p.2]), List.nil_append, show 16 - (bs p.1).length = 0 by simp [p.2], List.drop_zero, List.take_of_length_le (by simp [q.2])]
  have hs2 : (bs p.1 ++ bs q.1).toArray.size = 32 := by simp [p.2, q.2]
  obtain ⟨D, HD⟩ := nm (bs p.1 ++ bs q.1).toArray
  obtain ⟨P, HP⟩ := nm (bs p.1).toArray
  obtain ⟨Q, HQ⟩ := nm (bs q.1).toArray
  rw [← HD.out] at hcp hcq hs2 hso ⊢
  rw [← HP.out] at hsp hstp hcp
  rw [← HQ.out] at hsq hstq hcq
  obtain ⟨w1, HW1⟩ := nm (w.alloc (.cells D 49))
  have b1 : Blk w1 w.heap.size 49 D := by rw [HW1.out]; exact Blk.new _ _ _
  have hl0 : ldA w1 w.heap.size 0 16 = some P := by rw [b1.ldA 0 16 (by omega), hcp]
  have hl1 : ldA w1 w.heap.size 16 16 = some Q := by rw [b1.ldA 16 16 (by omega), hcq]
  have HF1 := Lib.hid (show Fr0 w w1 from by rw [HW1.out]; exact (Fr.refl _ _).alloc _)
  clear b1 hcp hcq
  go_enter Try.func8, Try.ntmps8
  go_wp2_with fail
  rw [← HW1.out]
  have hlt : w.heap.size < w1.heap.size := by rw [HW1.out]; simp
  have hle : w.heap.size ≤ w1.heap.size := by omega
  have hlt1 : w.heap.size < w1.heap.size + 1 := by omega
  have hlt2 : w.heap.size < w1.heap.size + 1 + 1 := by omega
  go_cut [7, 8] from 13 to 16 (fun v7 v8 wx => ∃ g h, v7 = .pointer (some ⟨g, 0, none⟩) ∧ v8 = .pointer (some ⟨h, 0, none⟩) ∧ w.heap.size ≤ g ∧ w.heap.size ≤ h ∧ Blk wx g 22 P ∧ Blk wx h 22 Q ∧ Fr0 w wx)
  case first =>
    go_region
    all_goals
      go_wp2_with fail
      go_meet
      obtain ⟨x0, x1, x2, -⟩ := alloc2 w1 22 22 P Q _ rfl
      obtain ⟨y0, y1, y2, -⟩ := alloc2 w1 22 22 Q P _ rfl
      first
      | exact ⟨w1.heap.size, w1.heap.size + 1, rfl, rfl, by omega, by omega, x0.drew, x1.drew, HF1.out.trans x2.drew⟩
      | exact ⟨w1.heap.size + 1, w1.heap.size, rfl, rfl, by omega, by omega, y1.drew, y0.drew, HF1.out.trans y2.drew⟩
  case rest =>
    obtain ⟨g, h, rfl, rfl, hg, hh, bg, bh, hf⟩ := hcut
    have HGH := Lib.hid (And.intro hg (And.intro hh (And.intro bg (And.intro bh hf))))
    clear hg hh bg bh hf hl0 hl1 HW1 HF1 hlt hle hlt1 hlt2 hso hs2
    obtain ⟨f, HF⟩ := nm (fun i => (l.getD i default).1)
    have hfl : ∀ c, (f c).length = 16 := fun c => by rw [HF.out]; exact (l.getD c default).2
    have HA := Lib.hid ha
    have hcap := ha.cap
    have hmax := ha.max
    unfold maxLen at hmax
    clear ha
    have b2 := (Blk.new wc 52 (zeroTail Try.prog 52 0))
    rw [show zeroTail Try.prog 52 0 = (bs (List.replicate 560 0)).toArray by kernel_rfl, ← preF_zero f] at b2
    rw [preF_zero f, ← show zeroTail Try.prog 52 0 = (bs (List.replicate 560 0)).toArray by kernel_rfl] at b2
    go_wp2_with fail
    obtain ⟨w2, HW2⟩ := nm (wc.alloc (.cells (zeroTail Try.prog 52 0) 52))
    rw [← HW2.out] at b2 ⊢
    rw [show zeroTail Try.prog 52 0 = (bs (List.replicate 560 0)).toArray by kernel_rfl, ← preF_zero f] at b2
    have HS2 := Lib.hid (And.intro b2 (show Fr0 wc w2 from by rw [HW2.out]; exact (Fr.refl _ _).alloc _))
    clear b2
    go_loopw [10] (fun i wr => ∃ k : Nat, k ≤ 35 ∧ k ≤ l.length ∧ i = .int .i64 k ∧ Blk wr wc.heap.size 52 (bs (preF f k)).toArray ∧ Fr0 wc wr) (fun i _ => 35 - (intOf i).toNat)
    case atStart => exact ⟨0, by omega, by omega, rfl, HS2.out.1, HS2.out.2⟩
    case round =>
      obtain ⟨k, hk, hkl, rfl, hb, hfr⟩ := hrel
      by_cases hin : k < l.length ∧ k < 35
      · obtain ⟨hi1, hi2⟩ := hin
        have z0 : (k : Int) < 35 := by omega
        have z1 : (0 : Int) ≤ (k : Int) := by omega
        have z2 : (k : Int) < (l.length : Int) := by omega
        obtain ⟨b, off, rfl, hbb, hld⟩ := (HA.out.below (Fr0.below (HGH.out.2.2.2.2.trans hfr))).ldA hi1 (by omega)
        rw [flat_cut (sz := 16) (fun o : By 16 => bs o.1) (fun o => by simp [o.2]) l k hi1] at hld
        have e1 : f k = l[k].1 := by rw [HF.out]; simp [List.getD_eq_getElem?_getD, hi1]
        simp only [← e1] at hld
        have hst : ∀ (w : World) (b o : Nat), okA w b o 16 = true → (st 22 (.pointer (some ⟨b, o, none⟩)) (.agg (bs (f k)).toArray)).run Try.prog w = .ok () (putW w b o (bs (f k)).toArray) := fun w b o h => a16_st ⟨f k, hfl k⟩ w b o h
        have hok := hb.okA (k * 16) 16 (by simp [preF_length f hfl k (by omega)]; omega)
        have n2 := hb.put (k * 16) (bs (f k)).toArray
        rw [preF_put f hfl k hi2] at n2
        have nf := hfr.put (b := wc.heap.size) (S := fun _ => False) (fun h => by omega) (k * 16) (bs (f k)).toArray
        have N := Lib.hid (And.intro n2 nf)
        clear hb hfr n2 nf e1
        go_wp2_with fail
        clear hst hok hld
        go_roundw
        case rel => exact ⟨k + 1, by omega, by omega, by go_num, N.out⟩
        case measure => simp [intOf]; omega
      · obtain ⟨s, hs⟩ : ∃ s : By 560, s.1 = preF f k := ⟨⟨preF f k, preF_length f hfl k hk⟩, rfl⟩
        rw [← hs] at hb
        clear hs
        obtain ⟨hg, hh, bg, bh, hf⟩ := HGH.out
        have HP0 := Lib.hid (bg.fr hfr (fun h => h))
        have HQ0 := Lib.hid (bh.fr hfr (fun h => h))
        have HF0 := Lib.hid (hf.trans hfr)
        have hsS : (bs s.1).toArray.size = 560 := by simp [s.2]
        obtain ⟨S, HS⟩ := nm (bs s.1).toArray
        rw [← HS.out] at hb hsS
        have HS0 := Lib.hid hb
        clear hb hg hh bg bh hf hfr HA HF HS2 HW2 hfl
        by_cases hi1 : k < l.length
        · have hi2 : ¬ (k : Int) < 35 := by omega
          have z2 : (k : Int) < (l.length : Int) := by omega
          have hst := a16_st ⟨compB leaf (endE leaf p.1 s.1), compB_length _ _⟩
          change ∀ (w : World) (b' p' : Nat), okA w b' p' 16 = true → (st 22 (.pointer (some ⟨b', p', none⟩)) (.agg (bs (compB leaf (endE leaf p.1 s.1))).toArray)).run Try.prog w = .ok () (putW w b' p' (bs (compB leaf (endE leaf p.1 s.1))).toArray) at hst
          have hsX : (bs (compB leaf (endE leaf p.1 s.1))).toArray.size = 16 := by simp [compB_length]
          have heX := fun w => run_rv_same w (compB leaf (endE leaf p.1 s.1)) (compB_length _ _)
          have heq : ∀ w, (eqv 22 (.agg (bs q.1).toArray) (.agg (bs (compB leaf (endE leaf p.1 s.1))).toArray)).run Try.prog w = .ok (.bool (decide (compB leaf (endE leaf p.1 s.1) = q.1))) w := fun w => by
            have := run_a16_eq w q ⟨compB leaf (endE leaf p.1 s.1), compB_length _ _⟩
            rw [this]; congr 3; exact propext (Subtype.ext_iff.trans eq_comm)
          obtain ⟨R, HR⟩ := nm (decide (compB leaf (endE leaf p.1 s.1) = q.1))
          obtain ⟨X, HX⟩ := nm (bs (compB leaf (endE leaf p.1 s.1))).toArray
          rw [← HX.out] at hst hsX heX heq
          rw [← HR.out, ← HQ.out] at heq
          obtain ⟨E, HE⟩ := nm (bs (endE leaf p.1 s.1)).toArray
          go_wp2_with fail
          refine (known_any _).mono ?_
          rintro e w3 ⟨rfl, hf3⟩
          have HP3 := Lib.hid (HP0.out.fr hf3 (fun h => h))
          have HQ3 := Lib.hid (HQ0.out.fr hf3 (fun h => h))
          have HS3 := Lib.hid (HS0.out.fr hf3 (fun h => h))
          have HF3 := Lib.hid (HF0.out.trans hf3)
          have hl3 := HP3.out.all hsp
          have hm3 := HS3.out.all hsS
          clear hf3
          go_wp2_with fail
          rw [HP.out, HS.out]
          refine (Recover_ok p s leaf hl _).mono ?_
          rintro e w4 ⟨rfl, hf4⟩
          rw [← HX.out, ← HP.out, ← HS.out]
          obtain ⟨w5, HW5⟩ := nm (w4.alloc (.cells X 22))
          have HX5 := Lib.hid (show Blk w5 w4.heap.size 22 X from by rw [HW5.out]; exact Blk.new _ _ _)
          have HP5 := Lib.hid (show Blk w5 g 22 P from by rw [HW5.out]; exact (HP3.out.fr hf4 (fun h => h)).alloc _)
          have HQ5 := Lib.hid (show Blk w5 h 22 Q from by rw [HW5.out]; exact (HQ3.out.fr hf4 (fun h => h)).alloc _)
          have HS5 := Lib.hid (show Blk w5 wc.heap.size 52 S from by rw [HW5.out]; exact (HS3.out.fr hf4 (fun h => h)).alloc _)
          have HF5 := Lib.hid (show Fr0 w w5 from by rw [HW5.out]; exact (HF3.out.trans hf4).alloc _)
          clear hf4 hl3 hm3
          go_wp2_with fail
          rw [← HW5.out]
          refine (in_any _ _ _).mono ?_
          rintro e w6 ⟨rfl, rfl⟩
          rw [decide_eq_true (by omega)]
          go_wp2_with fail
          refine reg_start (by kernel_rfl) ?_
          refine reg_seq' 91 3 TT8 (by kernel_rfl) (by kernel_rfl) ?_
          simp only [List.drop_succ_cons, List.drop_zero, List.take_succ_cons, List.take_zero]
          go_wp2_with fail
          refine QR.mk ?_
          refine reg_uno (D := [some 60, some 61, some 62, some 63, some 64, some 65, some 66, some 67, some 68, some 69, some 70, some 71, some 72, some 73, some 74, some 75, some 76, some 77, some 78, some 79, some 80, some 81, some 82, some 83, some 84, some 85, some 86, some 87, some 88, some 89, some 90, some 6]) (J := [3, 4, 5, 6, 7, 8, 9, 10]) 11 [] [PV (.agg X), PV (.int .i64 (leaf : Int)), PV (.int .i64 (leaf : Int)), PV (.agg P), PV (.agg S), PV (.agg S), PV (.agg E), PV (.agg X)] TT8 (by kernel_rfl) (by kernel_rfl) (by kernel_rfl) rfl rfl rfl
            (stab_cons (PV.stab _) (stab_cons (PV.stab _) (stab_cons (PV.stab _) (stab_cons (PV.stab _) (stab_cons (PV.stab _) (stab_cons (PV.stab _) (stab_cons (PV.stab _) (stab_cons (PV.stab _) stab_nil))))))))
            (fun v => usteps_cons ?_ (usteps_cons ?_ (usteps_cons ?_ (usteps_cons ?_ (usteps_cons ?_ (usteps_cons ?_ (usteps_cons ?_ (usteps_cons ?_ (usteps_nil))))))))) (fun v wx hx hP hA => ?_)
          · refine ustep_mk (D := [some 60, some 61, some 62, some 63, some 64, some 65, some 66, some 67, some 68, some 69, some 70, some 71, some 72, some 73, some 74, some 75, some 76, some 77, some 78, some 79, some 80, some 81, some 82, some 83, some 84, some 85, some 86, some 87, some 88, some 89, some 90, some 6]) (Ti := []) rfl rfl rfl rfl (fun wx hx hP => ?_)   -- 3: load 22 (tmp 11)
            have hl := (HX5.out.drew.fr hx (fun h => h)).all hsX
            clear hP
            simp only [putD, List.getD_cons_zero, List.getD_cons_succ]
            go_wp2_with fail
            exact Q1.mk rfl _ rfl ⟨Fr.refl _ _, rfl, frok_no rfl⟩
          · refine ustep_mk (D := [some 60, some 61, some 62, some 63, some 64, some 65, some 66, some 67, some 68, some 69, some 70, some 71, some 72, some 73, some 74, some 75, some 76, some 77, some 78, some 79, some 80, some 81, some 82, some 83, some 84, some 85, some 86, some 87, some 88, some 89, some 90, some 6]) (Ti := []) rfl rfl rfl rfl (fun wx hx hP => ?_)   -- 4: move (tmp 0)
            clear hP
            simp only [putD, List.getD_cons_zero, List.getD_cons_succ]
            go_wp2_with fail
            exact Q1.mk rfl _ rfl ⟨Fr.refl _ _, rfl, frok_no rfl⟩
          · refine ustep_mk (D := [some 60, some 61, some 62, some 63, some 64, some 65, some 66, some 67, some 68, some 69, some 70, some 71, some 72, some 73, some 74, some 75, some 76, some 77, some 78, some 79, some 80, some 81, some 82, some 83, some 84, some 85, some 86, some 87, some 88, some 89, some 90, some 6]) (Ti := []) rfl rfl rfl rfl (fun wx hx hP => ?_)   -- 5: move (tmp 0)
            clear hP
            simp only [putD, List.getD_cons_zero, List.getD_cons_succ]
            go_wp2_with fail
            exact Q1.mk rfl _ rfl ⟨Fr.refl _ _, rfl, frok_no rfl⟩
          · refine ustep_mk (D := [some 60, some 61, some 62, some 63, some 64, some 65, some 66, some 67, some 68, some 69, some 70, some 71, some 72, some 73, some 74, some 75, some 76, some 77, some 78, some 79, some 80, some 81, some 82, some 83, some 84, some 85, some 86, some 87, some 88, some 89, some 90, some 6]) (Ti := []) rfl rfl rfl rfl (fun wx hx hP => ?_)   -- 6: load 22 (tmp 7)
            have hl := (HP5.out.drew.fr hx (fun h => h)).all hsp
            clear hP
            simp only [putD, List.getD_cons_zero, List.getD_cons_succ]
            go_wp2_with fail
            exact Q1.mk rfl _ rfl ⟨Fr.refl _ _, rfl, frok_no rfl⟩
          · refine ustep_mk (D := [some 60, some 61, some 62, some 63, some 64, some 65, some 66, some 67, some 68, some 69, some 70, some 71, some 72, some 73, some 74, some 75, some 76, some 77, some 78, some 79, some 80, some 81, some 82, some 83, some 84, some 85, some 86, some 87, some 88, some 89, some 90, some 6]) (Ti := []) rfl rfl rfl rfl (fun wx hx hP => ?_)   -- 7: load 52 (tmp 9)
            have hl := (HS5.out.drew.fr hx (fun h => h)).all hsS
            clear hP
            simp only [putD, List.getD_cons_zero, List.getD_cons_succ]
            go_wp2_with fail
            exact Q1.mk rfl _ rfl ⟨Fr.refl _ _, rfl, frok_no rfl⟩
          · refine ustep_mk (D := [some 60, some 61, some 62, some 63, some 64, some 65, some 66, some 67, some 68, some 69, some 70, some 71, some 72, some 73, some 74, some 75, some 76, some 77, some 78, some 79, some 80, some 81, some 82, some 83, some 84, some 85, some 86, some 87, some 88, some 89, some 90, some 6]) (Ti := [7]) rfl rfl rfl rfl (fun wx hx hP => ?_)   -- 8: call { callee := Callee.value (func 27), args := #
            have h7 : v 7 = .agg S := hP.1
            clear hP
            simp only [putD, List.getD_cons_zero, List.getD_cons_succ]
            go_wp2_with fail
            rw [HS.out]
            refine (to_any s _).mono ?_
            rintro e wy ⟨rfl, hfy⟩
            rw [← HS.out]
            go_wp2_with fail
            exact Q1.mk rfl _ rfl ⟨hfy, rfl, frok_no rfl⟩
          · refine ustep_mk (D := [some 60, some 61, some 62, some 63, some 64, some 65, some 66, some 67, some 68, some 69, some 70, some 71, some 72, some 73, some 74, some 75, some 76, some 77, some 78, some 79, some 80, some 81, some 82, some 83, some 84, some 85, some 86, some 87, some 88, some 89, some 90, some 6]) (Ti := [5, 6, 7, 8]) rfl rfl rfl rfl (fun wx hx hP => ?_)   -- 9: call { callee := Callee.value (func 26), args := #
            have h5 : v 5 = .int .i64 (leaf : Int) := hP.1
            have h6 : v 6 = .agg P := hP.2.1
            have h7 : v 7 = .agg S := hP.2.2.1
            have h8 : v 8 = .agg S := hP.2.2.2.1
            clear hP
            simp only [putD, List.getD_cons_zero, List.getD_cons_succ]
            go_wp2_with fail
            rw [HP.out, HS.out]
            refine (rlast_any leaf hl p s _).mono ?_
            rintro e wy ⟨rfl, hfy⟩
            rw [← HE.out, ← HP.out, ← HS.out]
            go_wp2_with fail
            exact Q1.mk rfl _ rfl ⟨hfy, rfl, frok_no rfl⟩
          · refine ustep_mk (D := [some 60, some 61, some 62, some 63, some 64, some 65, some 66, some 67, some 68, some 69, some 70, some 71, some 72, some 73, some 74, some 75, some 76, some 77, some 78, some 79, some 80, some 81, some 82, some 83, some 84, some 85, some 86, some 87, some 88, some 89, some 90, some 6]) (Ti := [4, 5, 6, 7, 8, 9]) rfl rfl rfl rfl (fun wx hx hP => ?_)   -- 10: call { callee := Callee.value (func 25), args := #
            have h4 : v 4 = .int .i64 (leaf : Int) := hP.1
            have h5 : v 5 = .int .i64 (leaf : Int) := hP.2.1
            have h6 : v 6 = .agg P := hP.2.2.1
            have h7 : v 7 = .agg S := hP.2.2.2.1
            have h8 : v 8 = .agg S := hP.2.2.2.2.1
            have h9 : v 9 = .agg E := hP.2.2.2.2.2.1
            clear hP
            simp only [putD, List.getD_cons_zero, List.getD_cons_succ]
            go_wp2_with fail
            rw [HE.out]
            refine (rcompress_any leaf hl ⟨endE leaf p.1 s.1, endE_length s.2 _ _⟩ _).mono ?_
            rintro e wy ⟨rfl, hfy⟩
            rw [← HX.out, ← HE.out]
            go_wp2_with fail
            exact Q1.mk rfl _ rfl ⟨hfy, rfl, frok_no rfl⟩
          have h3 : v 3 = .agg X := hP.1
          have h4 : v 4 = .int .i64 (leaf : Int) := hP.2.1
          have h5 : v 5 = .int .i64 (leaf : Int) := hP.2.2.1
          have h6 : v 6 = .agg P := hP.2.2.2.1
          have h7 : v 7 = .agg S := hP.2.2.2.2.1
          have h8 : v 8 = .agg S := hP.2.2.2.2.2.1
          have h9 : v 9 = .agg E := hP.2.2.2.2.2.2.1
          have h10 : v 10 = .agg X := hP.2.2.2.2.2.2.2.1
          have HX6 := Lib.hid (HX5.out.drew.fr hx (fun h => h))
          have HP6 := Lib.hid (HP5.out.drew.fr hx (fun h => h))
          have HQ6 := Lib.hid (HQ5.out.drew.fr hx (fun h => h))
          have HS6 := Lib.hid (HS5.out.drew.fr hx (fun h => h))
          have HF6 := Lib.hid (HF5.out.trans ((Fr.drew (Fr.refl _ _)).trans hx))
          clear hx hA
          clear hP
          simp only [putD, List.getD_cons_zero, List.getD_cons_succ]
          refine reg_seq' 91 3 TT8 (by kernel_rfl) (by kernel_rfl) ?_
          simp only [List.drop_succ_cons, List.drop_zero, List.take_succ_cons, List.take_zero]
          go_wp2_with fail
          refine QR.mk ?_
          refine reg_uno (D := [some 60, some 61, some 62, some 63, some 64, some 65, some 66, some 67, some 68, some 69, some 70, some 71, some 72, some 73, some 74, some 75, some 76, some 77, some 78, some 79, some 80, some 81, some 82, some 83, some 84, some 85, some 86, some 87, some 88, some 89, some 90, some 6]) (J := [14, 15, 16, 17]) 18 [] [PV (.agg X), PV (.int .i64 (leaf : Int)), PV (.agg P), PV (.agg S)] TT8 (by kernel_rfl) (by kernel_rfl) (by kernel_rfl) rfl rfl rfl
            (stab_cons (PV.stab _) (stab_cons (PV.stab _) (stab_cons (PV.stab _) (stab_cons (PV.stab _) stab_nil))))
            (fun v => usteps_cons ?_ (usteps_cons ?_ (usteps_cons ?_ (usteps_cons ?_ (usteps_nil))))) (fun v wx hx hP hA => ?_)
          · refine ustep_mk (D := [some 60, some 61, some 62, some 63, some 64, some 65, some 66, some 67, some 68, some 69, some 70, some 71, some 72, some 73, some 74, some 75, some 76, some 77, some 78, some 79, some 80, some 81, some 82, some 83, some 84, some 85, some 86, some 87, some 88, some 89, some 90, some 6]) (Ti := []) rfl rfl rfl rfl (fun wx hx hP => ?_)   -- 14: load 22 (tmp 11)
            have hl := (HX6.out.fr hx (fun h => h)).all hsX
            clear hP
            simp only [putD, List.getD_cons_zero, List.getD_cons_succ]
            go_wp2_with fail
            exact Q1.mk rfl _ rfl ⟨Fr.refl _ _, rfl, frok_no rfl⟩
          · refine ustep_mk (D := [some 60, some 61, some 62, some 63, some 64, some 65, some 66, some 67, some 68, some 69, some 70, some 71, some 72, some 73, some 74, some 75, some 76, some 77, some 78, some 79, some 80, some 81, some 82, some 83, some 84, some 85, some 86, some 87, some 88, some 89, some 90, some 6]) (Ti := []) rfl rfl rfl rfl (fun wx hx hP => ?_)   -- 15: move (tmp 0)
            clear hP
            simp only [putD, List.getD_cons_zero, List.getD_cons_succ]
            go_wp2_with fail
            exact Q1.mk rfl _ rfl ⟨Fr.refl _ _, rfl, frok_no rfl⟩
          · refine ustep_mk (D := [some 60, some 61, some 62, some 63, some 64, some 65, some 66, some 67, some 68, some 69, some 70, some 71, some 72, some 73, some 74, some 75, some 76, some 77, some 78, some 79, some 80, some 81, some 82, some 83, some 84, some 85, some 86, some 87, some 88, some 89, some 90, some 6]) (Ti := []) rfl rfl rfl rfl (fun wx hx hP => ?_)   -- 16: load 22 (tmp 7)
            have hl := (HP6.out.fr hx (fun h => h)).all hsp
            clear hP
            simp only [putD, List.getD_cons_zero, List.getD_cons_succ]
            go_wp2_with fail
            exact Q1.mk rfl _ rfl ⟨Fr.refl _ _, rfl, frok_no rfl⟩
          · refine ustep_mk (D := [some 60, some 61, some 62, some 63, some 64, some 65, some 66, some 67, some 68, some 69, some 70, some 71, some 72, some 73, some 74, some 75, some 76, some 77, some 78, some 79, some 80, some 81, some 82, some 83, some 84, some 85, some 86, some 87, some 88, some 89, some 90, some 6]) (Ti := []) rfl rfl rfl rfl (fun wx hx hP => ?_)   -- 17: load 52 (tmp 9)
            have hl := (HS6.out.fr hx (fun h => h)).all hsS
            clear hP
            simp only [putD, List.getD_cons_zero, List.getD_cons_succ]
            go_wp2_with fail
            exact Q1.mk rfl _ rfl ⟨Fr.refl _ _, rfl, frok_no rfl⟩
          have h14 : v 14 = .agg X := hP.1
          have h15 : v 15 = .int .i64 (leaf : Int) := hP.2.1
          have h16 : v 16 = .agg P := hP.2.2.1
          have h17 : v 17 = .agg S := hP.2.2.2.1
          have hy7 := hx
          clear hx hA
          clear hP
          simp only [putD, List.getD_cons_zero, List.getD_cons_succ]
          refine reg_seq' 91 3 TT8 (by kernel_rfl) (by kernel_rfl) ?_
          simp only [List.drop_succ_cons, List.drop_zero, List.take_succ_cons, List.take_zero]
          go_wp2_with fail
          rw [HX.out, HP.out, HS.out]
          refine (Verify_ok leaf hl ⟨compB leaf (endE leaf p.1 s.1), compB_length _ _⟩ p s _).mono ?_
          rintro e wr ⟨rfl, hfr⟩
          rw [decide_eq_true rfl, ← HX.out, ← HP.out, ← HS.out]
          have hx7 := hy7.trans hfr
          have HX7 := Lib.hid (HX6.out.fr hx7 (fun h => h))
          have HP7 := Lib.hid (HP6.out.fr hx7 (fun h => h))
          have HQ7 := Lib.hid (HQ6.out.fr hx7 (fun h => h))
          have HS7 := Lib.hid (HS6.out.fr hx7 (fun h => h))
          have HF7 := Lib.hid (HF6.out.trans hx7)
          clear hx7 hy7 hfr
          go_wp2_with fail
          refine QR.mk ?_
          refine reg_uno (D := [some 60, some 61, some 62, some 63, some 64, some 65, some 66, some 67, some 68, some 69, some 70, some 71, some 72, some 73, some 74, some 75, some 76, some 77, some 78, some 79, some 80, some 81, some 82, some 83, some 84, some 85, some 86, some 87, some 88, some 89, some 90, some 6]) (J := [21, 22, 23, 24, 25, 26, 27, 28]) 29 [] [PV (.agg Q), PV (.int .i64 (leaf : Int)), PV (.agg P), PV (.agg S), PV (.bool R), PV (.agg Q), PV (.agg X), PV (.bool R)] TT8 (by kernel_rfl) (by kernel_rfl) (by kernel_rfl) rfl rfl rfl
            (stab_cons (PV.stab _) (stab_cons (PV.stab _) (stab_cons (PV.stab _) (stab_cons (PV.stab _) (stab_cons (PV.stab _) (stab_cons (PV.stab _) (stab_cons (PV.stab _) (stab_cons (PV.stab _) stab_nil))))))))
            (fun v => usteps_cons ?_ (usteps_cons ?_ (usteps_cons ?_ (usteps_cons ?_ (usteps_cons ?_ (usteps_cons ?_ (usteps_cons ?_ (usteps_cons ?_ (usteps_nil))))))))) (fun v wx hx hP hA => ?_)
          · refine ustep_mk (D := [some 60, some 61, some 62, some 63, some 64, some 65, some 66, some 67, some 68, some 69, some 70, some 71, some 72, some 73, some 74, some 75, some 76, some 77, some 78, some 79, some 80, some 81, some 82, some 83, some 84, some 85, some 86, some 87, some 88, some 89, some 90, some 6]) (Ti := []) rfl rfl rfl rfl (fun wx hx hP => ?_)   -- 21: load 22 (tmp 8)
            have hl := (HQ7.out.fr hx (fun h => h)).all hsq
            clear hP
            simp only [putD, List.getD_cons_zero, List.getD_cons_succ]
            go_wp2_with fail
            exact Q1.mk rfl _ rfl ⟨Fr.refl _ _, rfl, frok_no rfl⟩
          · refine ustep_mk (D := [some 60, some 61, some 62, some 63, some 64, some 65, some 66, some 67, some 68, some 69, some 70, some 71, some 72, some 73, some 74, some 75, some 76, some 77, some 78, some 79, some 80, some 81, some 82, some 83, some 84, some 85, some 86, some 87, some 88, some 89, some 90, some 6]) (Ti := []) rfl rfl rfl rfl (fun wx hx hP => ?_)   -- 22: move (tmp 0)
            clear hP
            simp only [putD, List.getD_cons_zero, List.getD_cons_succ]
            go_wp2_with fail
            exact Q1.mk rfl _ rfl ⟨Fr.refl _ _, rfl, frok_no rfl⟩
          · refine ustep_mk (D := [some 60, some 61, some 62, some 63, some 64, some 65, some 66, some 67, some 68, some 69, some 70, some 71, some 72, some 73, some 74, some 75, some 76, some 77, some 78, some 79, some 80, some 81, some 82, some 83, some 84, some 85, some 86, some 87, some 88, some 89, some 90, some 6]) (Ti := []) rfl rfl rfl rfl (fun wx hx hP => ?_)   -- 23: load 22 (tmp 7)
            have hl := (HP7.out.fr hx (fun h => h)).all hsp
            clear hP
            simp only [putD, List.getD_cons_zero, List.getD_cons_succ]
            go_wp2_with fail
            exact Q1.mk rfl _ rfl ⟨Fr.refl _ _, rfl, frok_no rfl⟩
          · refine ustep_mk (D := [some 60, some 61, some 62, some 63, some 64, some 65, some 66, some 67, some 68, some 69, some 70, some 71, some 72, some 73, some 74, some 75, some 76, some 77, some 78, some 79, some 80, some 81, some 82, some 83, some 84, some 85, some 86, some 87, some 88, some 89, some 90, some 6]) (Ti := []) rfl rfl rfl rfl (fun wx hx hP => ?_)   -- 24: load 52 (tmp 9)
            have hl := (HS7.out.fr hx (fun h => h)).all hsS
            clear hP
            simp only [putD, List.getD_cons_zero, List.getD_cons_succ]
            go_wp2_with fail
            exact Q1.mk rfl _ rfl ⟨Fr.refl _ _, rfl, frok_no rfl⟩
          · refine ustep_mk (D := [some 60, some 61, some 62, some 63, some 64, some 65, some 66, some 67, some 68, some 69, some 70, some 71, some 72, some 73, some 74, some 75, some 76, some 77, some 78, some 79, some 80, some 81, some 82, some 83, some 84, some 85, some 86, some 87, some 88, some 89, some 90, some 6]) (Ti := [21, 22, 23, 24]) rfl rfl rfl rfl (fun wx hx hP => ?_)   -- 25: call { callee := Callee.value (func 24), args := #
            have h21 : v 21 = .agg Q := hP.1
            have h22 : v 22 = .int .i64 (leaf : Int) := hP.2.1
            have h23 : v 23 = .agg P := hP.2.2.1
            have h24 : v 24 = .agg S := hP.2.2.2.1
            clear hP
            simp only [putD, List.getD_cons_zero, List.getD_cons_succ]
            go_wp2_with fail
            rw [HQ.out, HP.out, HS.out]
            refine (Verify_ok leaf hl q p s _).mono ?_
            rintro e wy ⟨rfl, hfy⟩
            rw [← HR.out, ← HQ.out, ← HP.out, ← HS.out]
            go_wp2_with fail
            exact Q1.mk rfl _ rfl ⟨hfy, rfl, frok_no rfl⟩
          · refine ustep_mk (D := [some 60, some 61, some 62, some 63, some 64, some 65, some 66, some 67, some 68, some 69, some 70, some 71, some 72, some 73, some 74, some 75, some 76, some 77, some 78, some 79, some 80, some 81, some 82, some 83, some 84, some 85, some 86, some 87, some 88, some 89, some 90, some 6]) (Ti := []) rfl rfl rfl rfl (fun wx hx hP => ?_)   -- 26: load 22 (tmp 8)
            have hl := (HQ7.out.fr hx (fun h => h)).all hsq
            clear hP
            simp only [putD, List.getD_cons_zero, List.getD_cons_succ]
            go_wp2_with fail
            exact Q1.mk rfl _ rfl ⟨Fr.refl _ _, rfl, frok_no rfl⟩
          · refine ustep_mk (D := [some 60, some 61, some 62, some 63, some 64, some 65, some 66, some 67, some 68, some 69, some 70, some 71, some 72, some 73, some 74, some 75, some 76, some 77, some 78, some 79, some 80, some 81, some 82, some 83, some 84, some 85, some 86, some 87, some 88, some 89, some 90, some 6]) (Ti := []) rfl rfl rfl rfl (fun wx hx hP => ?_)   -- 27: load 22 (tmp 11)
            have hl := (HX7.out.fr hx (fun h => h)).all hsX
            clear hP
            simp only [putD, List.getD_cons_zero, List.getD_cons_succ]
            go_wp2_with fail
            exact Q1.mk rfl _ rfl ⟨Fr.refl _ _, rfl, frok_no rfl⟩
          · refine ustep_mk (D := [some 60, some 61, some 62, some 63, some 64, some 65, some 66, some 67, some 68, some 69, some 70, some 71, some 72, some 73, some 74, some 75, some 76, some 77, some 78, some 79, some 80, some 81, some 82, some 83, some 84, some 85, some 86, some 87, some 88, some 89, some 90, some 6]) (Ti := [26, 27]) rfl rfl rfl rfl (fun wx hx hP => ?_)   -- 28: binOp Bineql 22 (tmp 86) (tmp 87) 22
            have h26 : v 26 = .agg Q := hP.1
            have h27 : v 27 = .agg X := hP.2.1
            clear hP
            simp only [putD, List.getD_cons_zero, List.getD_cons_succ]
            go_wp2_with fail
            exact Q1.mk rfl _ rfl ⟨Fr.refl _ _, rfl, frok_no rfl⟩
          have h21 : v 21 = .agg Q := hP.1
          have h22 : v 22 = .int .i64 (leaf : Int) := hP.2.1
          have h23 : v 23 = .agg P := hP.2.2.1
          have h24 : v 24 = .agg S := hP.2.2.2.1
          have h25 : v 25 = .bool R := hP.2.2.2.2.1
          have h26 : v 26 = .agg Q := hP.2.2.2.2.2.1
          have h27 : v 27 = .agg X := hP.2.2.2.2.2.2.1
          have h28 : v 28 = .bool R := hP.2.2.2.2.2.2.2.1
          have HF8 := Lib.hid (HF7.out.trans hx)
          clear hx hA
          clear hP
          simp only [putD, List.getD_cons_zero, List.getD_cons_succ]
          refine reg_seq' 91 3 TT8 (by kernel_rfl) (by kernel_rfl) ?_
          simp only [List.drop_succ_cons, List.drop_zero, List.take_succ_cons, List.take_zero]
          go_wp2_with fail
          refine QR.mk ?_
          refine reg_end (by decide) ?_
          go_wp2_with fail
          go_ret
          exact ⟨rfl, HF8.out⟩
        · have z2 : ¬ (k : Int) < (l.length : Int) := by omega
          have hst := a16_st ⟨compB leaf (endE leaf p.1 s.1), compB_length _ _⟩
          change ∀ (w : World) (b' p' : Nat), okA w b' p' 16 = true → (st 22 (.pointer (some ⟨b', p', none⟩)) (.agg (bs (compB leaf (endE leaf p.1 s.1))).toArray)).run Try.prog w = .ok () (putW w b' p' (bs (compB leaf (endE leaf p.1 s.1))).toArray) at hst
          have hsX : (bs (compB leaf (endE leaf p.1 s.1))).toArray.size = 16 := by simp [compB_length]
          have heX := fun w => run_rv_same w (compB leaf (endE leaf p.1 s.1)) (compB_length _ _)
          have heq : ∀ w, (eqv 22 (.agg (bs q.1).toArray) (.agg (bs (compB leaf (endE leaf p.1 s.1))).toArray)).run Try.prog w = .ok (.bool (decide (compB leaf (endE leaf p.1 s.1) = q.1))) w := fun w => by
            have := run_a16_eq w q ⟨compB leaf (endE leaf p.1 s.1), compB_length _ _⟩
            rw [this]; congr 3; exact propext (Subtype.ext_iff.trans eq_comm)
          obtain ⟨R, HR⟩ := nm (decide (compB leaf (endE leaf p.1 s.1) = q.1))
          obtain ⟨X, HX⟩ := nm (bs (compB leaf (endE leaf p.1 s.1))).toArray
          rw [← HX.out] at hst hsX heX heq
          rw [← HR.out, ← HQ.out] at heq
          obtain ⟨E, HE⟩ := nm (bs (endE leaf p.1 s.1)).toArray
          go_wp2_with fail
          refine (known_any _).mono ?_
          rintro e w3 ⟨rfl, hf3⟩
          have HP3 := Lib.hid (HP0.out.fr hf3 (fun h => h))
          have HQ3 := Lib.hid (HQ0.out.fr hf3 (fun h => h))
          have HS3 := Lib.hid (HS0.out.fr hf3 (fun h => h))
          have HF3 := Lib.hid (HF0.out.trans hf3)
          have hl3 := HP3.out.all hsp
          have hm3 := HS3.out.all hsS
          clear hf3
          go_wp2_with fail
          rw [HP.out, HS.out]
          refine (Recover_ok p s leaf hl _).mono ?_
          rintro e w4 ⟨rfl, hf4⟩
          rw [← HX.out, ← HP.out, ← HS.out]
          obtain ⟨w5, HW5⟩ := nm (w4.alloc (.cells X 22))
          have HX5 := Lib.hid (show Blk w5 w4.heap.size 22 X from by rw [HW5.out]; exact Blk.new _ _ _)
          have HP5 := Lib.hid (show Blk w5 g 22 P from by rw [HW5.out]; exact (HP3.out.fr hf4 (fun h => h)).alloc _)
          have HQ5 := Lib.hid (show Blk w5 h 22 Q from by rw [HW5.out]; exact (HQ3.out.fr hf4 (fun h => h)).alloc _)
          have HS5 := Lib.hid (show Blk w5 wc.heap.size 52 S from by rw [HW5.out]; exact (HS3.out.fr hf4 (fun h => h)).alloc _)
          have HF5 := Lib.hid (show Fr0 w w5 from by rw [HW5.out]; exact (HF3.out.trans hf4).alloc _)
          clear hf4 hl3 hm3
          go_wp2_with fail
          rw [← HW5.out]
          refine (in_any _ _ _).mono ?_
          rintro e w6 ⟨rfl, rfl⟩
          rw [decide_eq_true (by omega)]
          go_wp2_with fail
          refine reg_start (by kernel_rfl) ?_
          refine reg_seq' 91 3 TT8 (by kernel_rfl) (by kernel_rfl) ?_
          simp only [List.drop_succ_cons, List.drop_zero, List.take_succ_cons, List.take_zero]
          go_wp2_with fail
          refine QR.mk ?_
          refine reg_uno (D := [some 60, some 61, some 62, some 63, some 64, some 65, some 66, some 67, some 68, some 69, some 70, some 71, some 72, some 73, some 74, some 75, some 76, some 77, some 78, some 79, some 80, some 81, some 82, some 83, some 84, some 85, some 86, some 87, some 88, some 89, some 90, some 6]) (J := [3, 4, 5, 6, 7, 8, 9, 10]) 11 [] [PV (.agg X), PV (.int .i64 (leaf : Int)), PV (.int .i64 (leaf : Int)), PV (.agg P), PV (.agg S), PV (.agg S), PV (.agg E), PV (.agg X)] TT8 (by kernel_rfl) (by kernel_rfl) (by kernel_rfl) rfl rfl rfl
            (stab_cons (PV.stab _) (stab_cons (PV.stab _) (stab_cons (PV.stab _) (stab_cons (PV.stab _) (stab_cons (PV.stab _) (stab_cons (PV.stab _) (stab_cons (PV.stab _) (stab_cons (PV.stab _) stab_nil))))))))
            (fun v => usteps_cons ?_ (usteps_cons ?_ (usteps_cons ?_ (usteps_cons ?_ (usteps_cons ?_ (usteps_cons ?_ (usteps_cons ?_ (usteps_cons ?_ (usteps_nil))))))))) (fun v wx hx hP hA => ?_)
          · refine ustep_mk (D := [some 60, some 61, some 62, some 63, some 64, some 65, some 66, some 67, some 68, some 69, some 70, some 71, some 72, some 73, some 74, some 75, some 76, some 77, some 78, some 79, some 80, some 81, some 82, some 83, some 84, some 85, some 86, some 87, some 88, some 89, some 90, some 6]) (Ti := []) rfl rfl rfl rfl (fun wx hx hP => ?_)   -- 3: load 22 (tmp 11)
            have hl := (HX5.out.drew.fr hx (fun h => h)).all hsX
            clear hP
            simp only [putD, List.getD_cons_zero, List.getD_cons_succ]
            go_wp2_with fail
            exact Q1.mk rfl _ rfl ⟨Fr.refl _ _, rfl, frok_no rfl⟩
          · refine ustep_mk (D := [some 60, some 61, some 62, some 63, some 64, some 65, some 66, some 67, some 68, some 69, some 70, some 71, some 72, some 73, some 74, some 75, some 76, some 77, some 78, some 79, some 80, some 81, some 82, some 83, some 84, some 85, some 86, some 87, some 88, some 89, some 90, some 6]) (Ti := []) rfl rfl rfl rfl (fun wx hx hP => ?_)   -- 4: move (tmp 0)
            clear hP
            simp only [putD, List.getD_cons_zero, List.getD_cons_succ]
            go_wp2_with fail
            exact Q1.mk rfl _ rfl ⟨Fr.refl _ _, rfl, frok_no rfl⟩
          · refine ustep_mk (D := [some 60, some 61, some 62, some 63, some 64, some 65, some 66, some 67, some 68, some 69, some 70, some 71, some 72, some 73, some 74, some 75, some 76, some 77, some 78, some 79, some 80, some 81, some 82, some 83, some 84, some 85, some 86, some 87, some 88, some 89, some 90, some 6]) (Ti := []) rfl rfl rfl rfl (fun wx hx hP => ?_)   -- 5: move (tmp 0)
            clear hP
            simp only [putD, List.getD_cons_zero, List.getD_cons_succ]
            go_wp2_with fail
            exact Q1.mk rfl _ rfl ⟨Fr.refl _ _, rfl, frok_no rfl⟩
          · refine ustep_mk (D := [some 60, some 61, some 62, some 63, some 64, some 65, some 66, some 67, some 68, some 69, some 70, some 71, some 72, some 73, some 74, some 75, some 76, some 77, some 78, some 79, some 80, some 81, some 82, some 83, some 84, some 85, some 86, some 87, some 88, some 89, some 90, some 6]) (Ti := []) rfl rfl rfl rfl (fun wx hx hP => ?_)   -- 6: load 22 (tmp 7)
            have hl := (HP5.out.drew.fr hx (fun h => h)).all hsp
            clear hP
            simp only [putD, List.getD_cons_zero, List.getD_cons_succ]
            go_wp2_with fail
            exact Q1.mk rfl _ rfl ⟨Fr.refl _ _, rfl, frok_no rfl⟩
          · refine ustep_mk (D := [some 60, some 61, some 62, some 63, some 64, some 65, some 66, some 67, some 68, some 69, some 70, some 71, some 72, some 73, some 74, some 75, some 76, some 77, some 78, some 79, some 80, some 81, some 82, some 83, some 84, some 85, some 86, some 87, some 88, some 89, some 90, some 6]) (Ti := []) rfl rfl rfl rfl (fun wx hx hP => ?_)   -- 7: load 52 (tmp 9)
            have hl := (HS5.out.drew.fr hx (fun h => h)).all hsS
            clear hP
            simp only [putD, List.getD_cons_zero, List.getD_cons_succ]
            go_wp2_with fail
            exact Q1.mk rfl _ rfl ⟨Fr.refl _ _, rfl, frok_no rfl⟩
          · refine ustep_mk (D := [some 60, some 61, some 62, some 63, some 64, some 65, some 66, some 67, some 68, some 69, some 70, some 71, some 72, some 73, some 74, some 75, some 76, some 77, some 78, some 79, some 80, some 81, some 82, some 83, some 84, some 85, some 86, some 87, some 88, some 89, some 90, some 6]) (Ti := [7]) rfl rfl rfl rfl (fun wx hx hP => ?_)   -- 8: call { callee := Callee.value (func 27), args := #
            have h7 : v 7 = .agg S := hP.1
            clear hP
            simp only [putD, List.getD_cons_zero, List.getD_cons_succ]
            go_wp2_with fail
            rw [HS.out]
            refine (to_any s _).mono ?_
            rintro e wy ⟨rfl, hfy⟩
            rw [← HS.out]
            go_wp2_with fail
            exact Q1.mk rfl _ rfl ⟨hfy, rfl, frok_no rfl⟩
          · refine ustep_mk (D := [some 60, some 61, some 62, some 63, some 64, some 65, some 66, some 67, some 68, some 69, some 70, some 71, some 72, some 73, some 74, some 75, some 76, some 77, some 78, some 79, some 80, some 81, some 82, some 83, some 84, some 85, some 86, some 87, some 88, some 89, some 90, some 6]) (Ti := [5, 6, 7, 8]) rfl rfl rfl rfl (fun wx hx hP => ?_)   -- 9: call { callee := Callee.value (func 26), args := #
            have h5 : v 5 = .int .i64 (leaf : Int) := hP.1
            have h6 : v 6 = .agg P := hP.2.1
            have h7 : v 7 = .agg S := hP.2.2.1
            have h8 : v 8 = .agg S := hP.2.2.2.1
            clear hP
            simp only [putD, List.getD_cons_zero, List.getD_cons_succ]
            go_wp2_with fail
            rw [HP.out, HS.out]
            refine (rlast_any leaf hl p s _).mono ?_
            rintro e wy ⟨rfl, hfy⟩
            rw [← HE.out, ← HP.out, ← HS.out]
            go_wp2_with fail
            exact Q1.mk rfl _ rfl ⟨hfy, rfl, frok_no rfl⟩
          · refine ustep_mk (D := [some 60, some 61, some 62, some 63, some 64, some 65, some 66, some 67, some 68, some 69, some 70, some 71, some 72, some 73, some 74, some 75, some 76, some 77, some 78, some 79, some 80, some 81, some 82, some 83, some 84, some 85, some 86, some 87, some 88, some 89, some 90, some 6]) (Ti := [4, 5, 6, 7, 8, 9]) rfl rfl rfl rfl (fun wx hx hP => ?_)   -- 10: call { callee := Callee.value (func 25), args := #
            have h4 : v 4 = .int .i64 (leaf : Int) := hP.1
            have h5 : v 5 = .int .i64 (leaf : Int) := hP.2.1
            have h6 : v 6 = .agg P := hP.2.2.1
            have h7 : v 7 = .agg S := hP.2.2.2.1
            have h8 : v 8 = .agg S := hP.2.2.2.2.1
            have h9 : v 9 = .agg E := hP.2.2.2.2.2.1
            clear hP
            simp only [putD, List.getD_cons_zero, List.getD_cons_succ]
            go_wp2_with fail
            rw [HE.out]
            refine (rcompress_any leaf hl ⟨endE leaf p.1 s.1, endE_length s.2 _ _⟩ _).mono ?_
            rintro e wy ⟨rfl, hfy⟩
            rw [← HX.out, ← HE.out]
            go_wp2_with fail
            exact Q1.mk rfl _ rfl ⟨hfy, rfl, frok_no rfl⟩
          have h3 : v 3 = .agg X := hP.1
          have h4 : v 4 = .int .i64 (leaf : Int) := hP.2.1
          have h5 : v 5 = .int .i64 (leaf : Int) := hP.2.2.1
          have h6 : v 6 = .agg P := hP.2.2.2.1
          have h7 : v 7 = .agg S := hP.2.2.2.2.1
          have h8 : v 8 = .agg S := hP.2.2.2.2.2.1
          have h9 : v 9 = .agg E := hP.2.2.2.2.2.2.1
          have h10 : v 10 = .agg X := hP.2.2.2.2.2.2.2.1
          have HX6 := Lib.hid (HX5.out.drew.fr hx (fun h => h))
          have HP6 := Lib.hid (HP5.out.drew.fr hx (fun h => h))
          have HQ6 := Lib.hid (HQ5.out.drew.fr hx (fun h => h))
          have HS6 := Lib.hid (HS5.out.drew.fr hx (fun h => h))
          have HF6 := Lib.hid (HF5.out.trans ((Fr.drew (Fr.refl _ _)).trans hx))
          clear hx hA
          clear hP
          simp only [putD, List.getD_cons_zero, List.getD_cons_succ]
          refine reg_seq' 91 3 TT8 (by kernel_rfl) (by kernel_rfl) ?_
          simp only [List.drop_succ_cons, List.drop_zero, List.take_succ_cons, List.take_zero]
          go_wp2_with fail
          refine QR.mk ?_
          refine reg_uno (D := [some 60, some 61, some 62, some 63, some 64, some 65, some 66, some 67, some 68, some 69, some 70, some 71, some 72, some 73, some 74, some 75, some 76, some 77, some 78, some 79, some 80, some 81, some 82, some 83, some 84, some 85, some 86, some 87, some 88, some 89, some 90, some 6]) (J := [14, 15, 16, 17]) 18 [] [PV (.agg X), PV (.int .i64 (leaf : Int)), PV (.agg P), PV (.agg S)] TT8 (by kernel_rfl) (by kernel_rfl) (by kernel_rfl) rfl rfl rfl
            (stab_cons (PV.stab _) (stab_cons (PV.stab _) (stab_cons (PV.stab _) (stab_cons (PV.stab _) stab_nil))))
            (fun v => usteps_cons ?_ (usteps_cons ?_ (usteps_cons ?_ (usteps_cons ?_ (usteps_nil))))) (fun v wx hx hP hA => ?_)
          · refine ustep_mk (D := [some 60, some 61, some 62, some 63, some 64, some 65, some 66, some 67, some 68, some 69, some 70, some 71, some 72, some 73, some 74, some 75, some 76, some 77, some 78, some 79, some 80, some 81, some 82, some 83, some 84, some 85, some 86, some 87, some 88, some 89, some 90, some 6]) (Ti := []) rfl rfl rfl rfl (fun wx hx hP => ?_)   -- 14: load 22 (tmp 11)
            have hl := (HX6.out.fr hx (fun h => h)).all hsX
            clear hP
            simp only [putD, List.getD_cons_zero, List.getD_cons_succ]
            go_wp2_with fail
            exact Q1.mk rfl _ rfl ⟨Fr.refl _ _, rfl, frok_no rfl⟩
          · refine ustep_mk (D := [some 60, some 61, some 62, some 63, some 64, some 65, some 66, some 67, some 68, some 69, some 70, some 71, some 72, some 73, some 74, some 75, some 76, some 77, some 78, some 79, some 80, some 81, some 82, some 83, some 84, some 85, some 86, some 87, some 88, some 89, some 90, some 6]) (Ti := []) rfl rfl rfl rfl (fun wx hx hP => ?_)   -- 15: move (tmp 0)
            clear hP
            simp only [putD, List.getD_cons_zero, List.getD_cons_succ]
            go_wp2_with fail
            exact Q1.mk rfl _ rfl ⟨Fr.refl _ _, rfl, frok_no rfl⟩
          · refine ustep_mk (D := [some 60, some 61, some 62, some 63, some 64, some 65, some 66, some 67, some 68, some 69, some 70, some 71, some 72, some 73, some 74, some 75, some 76, some 77, some 78, some 79, some 80, some 81, some 82, some 83, some 84, some 85, some 86, some 87, some 88, some 89, some 90, some 6]) (Ti := []) rfl rfl rfl rfl (fun wx hx hP => ?_)   -- 16: load 22 (tmp 7)
            have hl := (HP6.out.fr hx (fun h => h)).all hsp
            clear hP
            simp only [putD, List.getD_cons_zero, List.getD_cons_succ]
            go_wp2_with fail
            exact Q1.mk rfl _ rfl ⟨Fr.refl _ _, rfl, frok_no rfl⟩
          · refine ustep_mk (D := [some 60, some 61, some 62, some 63, some 64, some 65, some 66, some 67, some 68, some 69, some 70, some 71, some 72, some 73, some 74, some 75, some 76, some 77, some 78, some 79, some 80, some 81, some 82, some 83, some 84, some 85, some 86, some 87, some 88, some 89, some 90, some 6]) (Ti := []) rfl rfl rfl rfl (fun wx hx hP => ?_)   -- 17: load 52 (tmp 9)
            have hl := (HS6.out.fr hx (fun h => h)).all hsS
            clear hP
            simp only [putD, List.getD_cons_zero, List.getD_cons_succ]
            go_wp2_with fail
            exact Q1.mk rfl _ rfl ⟨Fr.refl _ _, rfl, frok_no rfl⟩
          have h14 : v 14 = .agg X := hP.1
          have h15 : v 15 = .int .i64 (leaf : Int) := hP.2.1
          have h16 : v 16 = .agg P := hP.2.2.1
          have h17 : v 17 = .agg S := hP.2.2.2.1
          have hy7 := hx
          clear hx hA
          clear hP
          simp only [putD, List.getD_cons_zero, List.getD_cons_succ]
          refine reg_seq' 91 3 TT8 (by kernel_rfl) (by kernel_rfl) ?_
          simp only [List.drop_succ_cons, List.drop_zero, List.take_succ_cons, List.take_zero]
          go_wp2_with fail
          rw [HX.out, HP.out, HS.out]
          refine (Verify_ok leaf hl ⟨compB leaf (endE leaf p.1 s.1), compB_length _ _⟩ p s _).mono ?_
          rintro e wr ⟨rfl, hfr⟩
          rw [decide_eq_true rfl, ← HX.out, ← HP.out, ← HS.out]
          have hx7 := hy7.trans hfr
          have HX7 := Lib.hid (HX6.out.fr hx7 (fun h => h))
          have HP7 := Lib.hid (HP6.out.fr hx7 (fun h => h))
          have HQ7 := Lib.hid (HQ6.out.fr hx7 (fun h => h))
          have HS7 := Lib.hid (HS6.out.fr hx7 (fun h => h))
          have HF7 := Lib.hid (HF6.out.trans hx7)
          clear hx7 hy7 hfr
          go_wp2_with fail
          refine QR.mk ?_
          refine reg_uno (D := [some 60, some 61, some 62, some 63, some 64, some 65, some 66, some 67, some 68, some 69, some 70, some 71, some 72, some 73, some 74, some 75, some 76, some 77, some 78, some 79, some 80, some 81, some 82, some 83, some 84, some 85, some 86, some 87, some 88, some 89, some 90, some 6]) (J := [21, 22, 23, 24, 25, 26, 27, 28]) 29 [] [PV (.agg Q), PV (.int .i64 (leaf : Int)), PV (.agg P), PV (.agg S), PV (.bool R), PV (.agg Q), PV (.agg X), PV (.bool R)] TT8 (by kernel_rfl) (by kernel_rfl) (by kernel_rfl) rfl rfl rfl
            (stab_cons (PV.stab _) (stab_cons (PV.stab _) (stab_cons (PV.stab _) (stab_cons (PV.stab _) (stab_cons (PV.stab _) (stab_cons (PV.stab _) (stab_cons (PV.stab _) (stab_cons (PV.stab _) stab_nil))))))))
            (fun v => usteps_cons ?_ (usteps_cons ?_ (usteps_cons ?_ (usteps_cons ?_ (usteps_cons ?_ (usteps_cons ?_ (usteps_cons ?_ (usteps_cons ?_ (usteps_nil))))))))) (fun v wx hx hP hA => ?_)
          · refine ustep_mk (D := [some 60, some 61, some 62, some 63, some 64, some 65, some 66, some 67, some 68, some 69, some 70, some 71, some 72, some 73, some 74, some 75, some 76, some 77, some 78, some 79, some 80, some 81, some 82, some 83, some 84, some 85, some 86, some 87, some 88, some 89, some 90, some 6]) (Ti := []) rfl rfl rfl rfl (fun wx hx hP => ?_)   -- 21: load 22 (tmp 8)
            have hl := (HQ7.out.fr hx (fun h => h)).all hsq
            clear hP
            simp only [putD, List.getD_cons_zero, List.getD_cons_succ]
            go_wp2_with fail
            exact Q1.mk rfl _ rfl ⟨Fr.refl _ _, rfl, frok_no rfl⟩
          · refine ustep_mk (D := [some 60, some 61, some 62, some 63, some 64, some 65, some 66, some 67, some 68, some 69, some 70, some 71, some 72, some 73, some 74, some 75, some 76, some 77, some 78, some 79, some 80, some 81, some 82, some 83, some 84, some 85, some 86, some 87, some 88, some 89, some 90, some 6]) (Ti := []) rfl rfl rfl rfl (fun wx hx hP => ?_)   -- 22: move (tmp 0)
            clear hP
            simp only [putD, List.getD_cons_zero, List.getD_cons_succ]
            go_wp2_with fail
            exact Q1.mk rfl _ rfl ⟨Fr.refl _ _, rfl, frok_no rfl⟩
          · refine ustep_mk (D := [some 60, some 61, some 62, some 63, some 64, some 65, some 66, some 67, some 68, some 69, some 70, some 71, some 72, some 73, some 74, some 75, some 76, some 77, some 78, some 79, some 80, some 81, some 82, some 83, some 84, some 85, some 86, some 87, some 88, some 89, some 90, some 6]) (Ti := []) rfl rfl rfl rfl (fun wx hx hP => ?_)   -- 23: load 22 (tmp 7)
            have hl := (HP7.out.fr hx (fun h => h)).all hsp
            clear hP
            simp only [putD, List.getD_cons_zero, List.getD_cons_succ]
            go_wp2_with fail
            exact Q1.mk rfl _ rfl ⟨Fr.refl _ _, rfl, frok_no rfl⟩
          · refine ustep_mk (D := [some 60, some 61, some 62, some 63, some 64, some 65, some 66, some 67, some 68, some 69, some 70, some 71, some 72, some 73, some 74, some 75, some 76, some 77, some 78, some 79, some 80, some 81, some 82, some 83, some 84, some 85, some 86, some 87, some 88, some 89, some 90, some 6]) (Ti := []) rfl rfl rfl rfl (fun wx hx hP => ?_)   -- 24: load 52 (tmp 9)
            have hl := (HS7.out.fr hx (fun h => h)).all hsS
            clear hP
            simp only [putD, List.getD_cons_zero, List.getD_cons_succ]
            go_wp2_with fail
            exact Q1.mk rfl _ rfl ⟨Fr.refl _ _, rfl, frok_no rfl⟩
          · refine ustep_mk (D := [some 60, some 61, some 62, some 63, some 64, some 65, some 66, some 67, some 68, some 69, some 70, some 71, some 72, some 73, some 74, some 75, some 76, some 77, some 78, some 79, some 80, some 81, some 82, some 83, some 84, some 85, some 86, some 87, some 88, some 89, some 90, some 6]) (Ti := [21, 22, 23, 24]) rfl rfl rfl rfl (fun wx hx hP => ?_)   -- 25: call { callee := Callee.value (func 24), args := #
            have h21 : v 21 = .agg Q := hP.1
            have h22 : v 22 = .int .i64 (leaf : Int) := hP.2.1
            have h23 : v 23 = .agg P := hP.2.2.1
            have h24 : v 24 = .agg S := hP.2.2.2.1
            clear hP
            simp only [putD, List.getD_cons_zero, List.getD_cons_succ]
            go_wp2_with fail
            rw [HQ.out, HP.out, HS.out]
            refine (Verify_ok leaf hl q p s _).mono ?_
            rintro e wy ⟨rfl, hfy⟩
            rw [← HR.out, ← HQ.out, ← HP.out, ← HS.out]
            go_wp2_with fail
            exact Q1.mk rfl _ rfl ⟨hfy, rfl, frok_no rfl⟩
          · refine ustep_mk (D := [some 60, some 61, some 62, some 63, some 64, some 65, some 66, some 67, some 68, some 69, some 70, some 71, some 72, some 73, some 74, some 75, some 76, some 77, some 78, some 79, some 80, some 81, some 82, some 83, some 84, some 85, some 86, some 87, some 88, some 89, some 90, some 6]) (Ti := []) rfl rfl rfl rfl (fun wx hx hP => ?_)   -- 26: load 22 (tmp 8)
            have hl := (HQ7.out.fr hx (fun h => h)).all hsq
            clear hP
            simp only [putD, List.getD_cons_zero, List.getD_cons_succ]
            go_wp2_with fail
            exact Q1.mk rfl _ rfl ⟨Fr.refl _ _, rfl, frok_no rfl⟩
          · refine ustep_mk (D := [some 60, some 61, some 62, some 63, some 64, some 65, some 66, some 67, some 68, some 69, some 70, some 71, some 72, some 73, some 74, some 75, some 76, some 77, some 78, some 79, some 80, some 81, some 82, some 83, some 84, some 85, some 86, some 87, some 88, some 89, some 90, some 6]) (Ti := []) rfl rfl rfl rfl (fun wx hx hP => ?_)   -- 27: load 22 (tmp 11)
            have hl := (HX7.out.fr hx (fun h => h)).all hsX
            clear hP
            simp only [putD, List.getD_cons_zero, List.getD_cons_succ]
            go_wp2_with fail
            exact Q1.mk rfl _ rfl ⟨Fr.refl _ _, rfl, frok_no rfl⟩
          · refine ustep_mk (D := [some 60, some 61, some 62, some 63, some 64, some 65, some 66, some 67, some 68, some 69, some 70, some 71, some 72, some 73, some 74, some 75, some 76, some 77, some 78, some 79, some 80, some 81, some 82, some 83, some 84, some 85, some 86, some 87, some 88, some 89, some 90, some 6]) (Ti := [26, 27]) rfl rfl rfl rfl (fun wx hx hP => ?_)   -- 28: binOp Bineql 22 (tmp 86) (tmp 87) 22
            have h26 : v 26 = .agg Q := hP.1
            have h27 : v 27 = .agg X := hP.2.1
            clear hP
            simp only [putD, List.getD_cons_zero, List.getD_cons_succ]
            go_wp2_with fail
            exact Q1.mk rfl _ rfl ⟨Fr.refl _ _, rfl, frok_no rfl⟩
          have h21 : v 21 = .agg Q := hP.1
          have h22 : v 22 = .int .i64 (leaf : Int) := hP.2.1
          have h23 : v 23 = .agg P := hP.2.2.1
          have h24 : v 24 = .agg S := hP.2.2.2.1
          have h25 : v 25 = .bool R := hP.2.2.2.2.1
          have h26 : v 26 = .agg Q := hP.2.2.2.2.2.1
          have h27 : v 27 = .agg X := hP.2.2.2.2.2.2.1
          have h28 : v 28 = .bool R := hP.2.2.2.2.2.2.2.1
          have HF8 := Lib.hid (HF7.out.trans hx)
          clear hx hA
          clear hP
          simp only [putD, List.getD_cons_zero, List.getD_cons_succ]
          refine reg_seq' 91 3 TT8 (by kernel_rfl) (by kernel_rfl) ?_
          simp only [List.drop_succ_cons, List.drop_zero, List.take_succ_cons, List.take_zero]
          go_wp2_with fail
          refine QR.mk ?_
          refine reg_end (by decide) ?_
          go_wp2_with fail
          go_ret
          exact ⟨rfl, HF8.out⟩
set_option maxHeartbeats 2000000 in
theorem lrec_bad (leaf : Int) (hL : ¬ (0 ≤ leaf ∧ leaf ≤ 65535)) (p q : By 16) (l : List (By 16)) (A : Option Addr) (c : Nat) (w : World) (ha : Arg w w.heap.size A l.length c 16 (l.flatMap fun o : By 16 => bs o.1)) :
    Calls Try.prog 8 #[.int .i64 leaf, .agg (bs p.1 ++ bs q.1).toArray, .slice A l.length c] w fun e w' => e = .returned (.bool true) ∧ Fr0 w w' := by
  have hsp : (bs p.1).toArray.size = 16 := by simp [p.2]
  have hsq : (bs q.1).toArray.size = 16 := by simp [q.2]
  have hstp := a16_st p
  have hstq := a16_st q
  have hso : one1 (bs p.1 ++ bs q.1).toArray = true := all_one (by intro v hv; rcases List.mem_append.1 hv with h | h <;> exact bs_one' _ v h)
  have hcp : (bs p.1 ++ bs q.1).toArray.extract 0 16 = (bs p.1).toArray := by
    apply Array.toList_inj.1; simp only [List.extract_toArray, List.extract_eq_take_drop, List.drop_zero, Nat.sub_zero]; rw [List.take_append_of_le_length (by simp [p.2]), List.take_of_length_le (by simp [p.2])]
  have hcq : (bs p.1 ++ bs q.1).toArray.extract 16 32 = (bs q.1).toArray := by
    apply Array.toList_inj.1; simp only [List.extract_toArray, List.extract_eq_take_drop]; rw [List.drop_append, List.drop_of_length_le (by simp [p.2]), List.nil_append, show 16 - (bs p.1).length = 0 by simp [p.2], List.drop_zero, List.take_of_length_le (by simp [q.2])]
  have hs2 : (bs p.1 ++ bs q.1).toArray.size = 32 := by simp [p.2, q.2]
  obtain ⟨D, HD⟩ := nm (bs p.1 ++ bs q.1).toArray
  obtain ⟨P, HP⟩ := nm (bs p.1).toArray
  obtain ⟨Q, HQ⟩ := nm (bs q.1).toArray
  rw [← HD.out] at hcp hcq hs2 hso ⊢
  rw [← HP.out] at hsp hstp hcp
  rw [← HQ.out] at hsq hstq hcq
  obtain ⟨w1, HW1⟩ := nm (w.alloc (.cells D 49))
  have b1 : Blk w1 w.heap.size 49 D := by rw [HW1.out]; exact Blk.new _ _ _
  have hl0 : ldA w1 w.heap.size 0 16 = some P := by rw [b1.ldA 0 16 (by omega), hcp]
  have hl1 : ldA w1 w.heap.size 16 16 = some Q := by rw [b1.ldA 16 16 (by omega), hcq]
  have HF1 := Lib.hid (show Fr0 w w1 from by rw [HW1.out]; exact (Fr.refl _ _).alloc _)
  clear b1 hcp hcq
  go_enter Try.func8, Try.ntmps8
  go_wp2_with fail
  rw [← HW1.out]
  have hlt : w.heap.size < w1.heap.size := by rw [HW1.out]; simp
  have hle : w.heap.size ≤ w1.heap.size := by omega
  have hlt1 : w.heap.size < w1.heap.size + 1 := by omega
  have hlt2 : w.heap.size < w1.heap.size + 1 + 1 := by omega
  go_cut [7, 8] from 13 to 16 (fun v7 v8 wx => ∃ g h, v7 = .pointer (some ⟨g, 0, none⟩) ∧ v8 = .pointer (some ⟨h, 0, none⟩) ∧ w.heap.size ≤ g ∧ w.heap.size ≤ h ∧ Blk wx g 22 P ∧ Blk wx h 22 Q ∧ Fr0 w wx)
  case first =>
    go_region
    all_goals
      go_wp2_with fail
      go_meet
      obtain ⟨x0, x1, x2, -⟩ := alloc2 w1 22 22 P Q _ rfl
      obtain ⟨y0, y1, y2, -⟩ := alloc2 w1 22 22 Q P _ rfl
      first
      | exact ⟨w1.heap.size, w1.heap.size + 1, rfl, rfl, by omega, by omega, x0.drew, x1.drew, HF1.out.trans x2.drew⟩
      | exact ⟨w1.heap.size + 1, w1.heap.size, rfl, rfl, by omega, by omega, y1.drew, y0.drew, HF1.out.trans y2.drew⟩
  case rest =>
    obtain ⟨g, h, rfl, rfl, hg, hh, bg, bh, hf⟩ := hcut
    have HGH := Lib.hid (And.intro hg (And.intro hh (And.intro bg (And.intro bh hf))))
    clear hg hh bg bh hf hl0 hl1 HW1 HF1 hlt hle hlt1 hlt2 hso hs2
    obtain ⟨f, HF⟩ := nm (fun i => (l.getD i default).1)
    have hfl : ∀ c, (f c).length = 16 := fun c => by rw [HF.out]; exact (l.getD c default).2
    have HA := Lib.hid ha
    have hcap := ha.cap
    have hmax := ha.max
    unfold maxLen at hmax
    clear ha
    have b2 := (Blk.new wc 52 (zeroTail Try.prog 52 0))
    rw [show zeroTail Try.prog 52 0 = (bs (List.replicate 560 0)).toArray by kernel_rfl, ← preF_zero f] at b2
    rw [preF_zero f, ← show zeroTail Try.prog 52 0 = (bs (List.replicate 560 0)).toArray by kernel_rfl] at b2
    go_wp2_with fail
    obtain ⟨w2, HW2⟩ := nm (wc.alloc (.cells (zeroTail Try.prog 52 0) 52))
    rw [← HW2.out] at b2 ⊢
    rw [show zeroTail Try.prog 52 0 = (bs (List.replicate 560 0)).toArray by kernel_rfl, ← preF_zero f] at b2
    have HS2 := Lib.hid (And.intro b2 (show Fr0 wc w2 from by rw [HW2.out]; exact (Fr.refl _ _).alloc _))
    clear b2
    go_loopw [10] (fun i wr => ∃ k : Nat, k ≤ 35 ∧ k ≤ l.length ∧ i = .int .i64 k ∧ Blk wr wc.heap.size 52 (bs (preF f k)).toArray ∧ Fr0 wc wr) (fun i _ => 35 - (intOf i).toNat)
    case atStart => exact ⟨0, by omega, by omega, rfl, HS2.out.1, HS2.out.2⟩
    case round =>
      obtain ⟨k, hk, hkl, rfl, hb, hfr⟩ := hrel
      by_cases hin : k < l.length ∧ k < 35
      · obtain ⟨hi1, hi2⟩ := hin
        have z0 : (k : Int) < 35 := by omega
        have z1 : (0 : Int) ≤ (k : Int) := by omega
        have z2 : (k : Int) < (l.length : Int) := by omega
        obtain ⟨b, off, rfl, hbb, hld⟩ := (HA.out.below (Fr0.below (HGH.out.2.2.2.2.trans hfr))).ldA hi1 (by omega)
        rw [flat_cut (sz := 16) (fun o : By 16 => bs o.1) (fun o => by simp [o.2]) l k hi1] at hld
        have e1 : f k = l[k].1 := by rw [HF.out]; simp [List.getD_eq_getElem?_getD, hi1]
        simp only [← e1] at hld
        have hst : ∀ (w : World) (b o : Nat), okA w b o 16 = true → (st 22 (.pointer (some ⟨b, o, none⟩)) (.agg (bs (f k)).toArray)).run Try.prog w = .ok () (putW w b o (bs (f k)).toArray) := fun w b o h => a16_st ⟨f k, hfl k⟩ w b o h
        have hok := hb.okA (k * 16) 16 (by simp [preF_length f hfl k (by omega)]; omega)
        have n2 := hb.put (k * 16) (bs (f k)).toArray
        rw [preF_put f hfl k hi2] at n2
        have nf := hfr.put (b := wc.heap.size) (S := fun _ => False) (fun h => by omega) (k * 16) (bs (f k)).toArray
        have N := Lib.hid (And.intro n2 nf)
        clear hb hfr n2 nf e1
        go_wp2_with fail
        clear hst hok hld
        go_roundw
        case rel => exact ⟨k + 1, by omega, by omega, by go_num, N.out⟩
        case measure => simp [intOf]; omega
      · obtain ⟨s, hs⟩ : ∃ s : By 560, s.1 = preF f k := ⟨⟨preF f k, preF_length f hfl k hk⟩, rfl⟩
        rw [← hs] at hb
        clear hs
        obtain ⟨hg, hh, bg, bh, hf⟩ := HGH.out
        have HP0 := Lib.hid (bg.fr hfr (fun h => h))
        have HQ0 := Lib.hid (bh.fr hfr (fun h => h))
        have HF0 := Lib.hid (hf.trans hfr)
        have hsS : (bs s.1).toArray.size = 560 := by simp [s.2]
        obtain ⟨S, HS⟩ := nm (bs s.1).toArray
        rw [← HS.out] at hb hsS
        have HS0 := Lib.hid hb
        clear hb hg hh bg bh hf hfr HA HF HS2 HW2 hfl
        by_cases hi1 : k < l.length
        · have hi2 : ¬ (k : Int) < 35 := by omega
          have z2 : (k : Int) < (l.length : Int) := by omega
          have hst := z16_st
          have hbd := run_bd_v16
          have heq := run_z16_same
          have hsX : z16.size = 16 := rfl
          obtain ⟨X, HX⟩ := nm z16
          rw [← HX.out] at hst hbd hsX heq
          go_wp2_with fail
          refine (known_any _).mono ?_
          rintro e w3 ⟨rfl, hf3⟩
          have HP3 := Lib.hid (HP0.out.fr hf3 (fun h => h))
          have HQ3 := Lib.hid (HQ0.out.fr hf3 (fun h => h))
          have HS3 := Lib.hid (HS0.out.fr hf3 (fun h => h))
          have HF3 := Lib.hid (HF0.out.trans hf3)
          have hl3 := HP3.out.all hsp
          have hm3 := HS3.out.all hsS
          clear hf3
          go_wp2_with fail
          rw [HP.out, HS.out]
          refine (Recover_bad p s leaf hL _).mono ?_
          rintro e w4 ⟨rfl, hf4⟩
          rw [← HX.out, ← HP.out, ← HS.out]
          obtain ⟨w5, HW5⟩ := nm (w4.alloc (.cells X 22))
          have HX5 := Lib.hid (show Blk w5 w4.heap.size 22 X from by rw [HW5.out]; exact Blk.new _ _ _)
          have HP5 := Lib.hid (show Blk w5 g 22 P from by rw [HW5.out]; exact (HP3.out.fr hf4 (fun h => h)).alloc _)
          have HQ5 := Lib.hid (show Blk w5 h 22 Q from by rw [HW5.out]; exact (HQ3.out.fr hf4 (fun h => h)).alloc _)
          have HS5 := Lib.hid (show Blk w5 wc.heap.size 52 S from by rw [HW5.out]; exact (HS3.out.fr hf4 (fun h => h)).alloc _)
          have HF5 := Lib.hid (show Fr0 w w5 from by rw [HW5.out]; exact (HF3.out.trans hf4).alloc _)
          clear hf4 hl3 hm3
          go_wp2_with fail
          rw [← HW5.out]
          refine (in_any _ _ _).mono ?_
          rintro e w6 ⟨rfl, rfl⟩
          rw [decide_eq_false (by omega)]
          have l0 := HX5.out.all hsX
          have l1 := HP5.out.all hsp
          have l2 := HS5.out.all hsS
          go_wp2_with fail
          rw [HX.out, HP.out, HS.out, z16_bs]
          refine (Verify_bad leaf hL ⟨List.replicate 16 0, by simp⟩ p s _).mono ?_
          rintro e w8 ⟨rfl, hf8⟩
          have HF8 := Lib.hid (HF5.out.trans hf8)
          clear hf8 l0 l1 l2
          go_wp2_with fail
          go_ret
          exact ⟨rfl, HF8.out⟩
        · have z2 : ¬ (k : Int) < (l.length : Int) := by omega
          have hst := z16_st
          have hbd := run_bd_v16
          have heq := run_z16_same
          have hsX : z16.size = 16 := rfl
          obtain ⟨X, HX⟩ := nm z16
          rw [← HX.out] at hst hbd hsX heq
          go_wp2_with fail
          refine (known_any _).mono ?_
          rintro e w3 ⟨rfl, hf3⟩
          have HP3 := Lib.hid (HP0.out.fr hf3 (fun h => h))
          have HQ3 := Lib.hid (HQ0.out.fr hf3 (fun h => h))
          have HS3 := Lib.hid (HS0.out.fr hf3 (fun h => h))
          have HF3 := Lib.hid (HF0.out.trans hf3)
          have hl3 := HP3.out.all hsp
          have hm3 := HS3.out.all hsS
          clear hf3
          go_wp2_with fail
          rw [HP.out, HS.out]
          refine (Recover_bad p s leaf hL _).mono ?_
          rintro e w4 ⟨rfl, hf4⟩
          rw [← HX.out, ← HP.out, ← HS.out]
          obtain ⟨w5, HW5⟩ := nm (w4.alloc (.cells X 22))
          have HX5 := Lib.hid (show Blk w5 w4.heap.size 22 X from by rw [HW5.out]; exact Blk.new _ _ _)
          have HP5 := Lib.hid (show Blk w5 g 22 P from by rw [HW5.out]; exact (HP3.out.fr hf4 (fun h => h)).alloc _)
          have HQ5 := Lib.hid (show Blk w5 h 22 Q from by rw [HW5.out]; exact (HQ3.out.fr hf4 (fun h => h)).alloc _)
          have HS5 := Lib.hid (show Blk w5 wc.heap.size 52 S from by rw [HW5.out]; exact (HS3.out.fr hf4 (fun h => h)).alloc _)
          have HF5 := Lib.hid (show Fr0 w w5 from by rw [HW5.out]; exact (HF3.out.trans hf4).alloc _)
          clear hf4 hl3 hm3
          go_wp2_with fail
          rw [← HW5.out]
          refine (in_any _ _ _).mono ?_
          rintro e w6 ⟨rfl, rfl⟩
          rw [decide_eq_false (by omega)]
          have l0 := HX5.out.all hsX
          have l1 := HP5.out.all hsp
          have l2 := HS5.out.all hsS
          go_wp2_with fail
          rw [HX.out, HP.out, HS.out, z16_bs]
          refine (Verify_bad leaf hL ⟨List.replicate 16 0, by simp⟩ p s _).mono ?_
          rintro e w8 ⟨rfl, hf8⟩
          have HF8 := Lib.hid (HF5.out.trans hf8)
          clear hf8 l0 l1 l2
          go_wp2_with fail
          go_ret
          exact ⟨rfl, HF8.out⟩

theorem lrec_walk (leaf : Int) (p q : By 16) (l : List (By 16)) (A : Option Addr) (c : Nat) (w : World) (ha : Arg w w.heap.size A l.length c 16 (l.flatMap fun o : By 16 => bs o.1)) :
    Calls Try.prog 8 #[.int .i64 leaf, .agg (bs p.1 ++ bs q.1).toArray, .slice A l.length c] w fun e w' => e = .returned (.bool true) ∧ Below w.heap.size w w' := by
  by_cases h : 0 ≤ leaf ∧ leaf ≤ 65535
  · obtain ⟨x, rfl⟩ := Int.eq_ofNat_of_zero_le h.1
    exact (lrec_ok x (by omega) p q l A c w ha).mono fun e w' ⟨he, hf⟩ => ⟨he, Fr0.below hf⟩
  · exact (lrec_bad leaf h p q l A c w ha).mono fun e w' ⟨he, hf⟩ => ⟨he, Fr0.below hf⟩
end Go.Proofs.Ytjdbfedkadoklaa
