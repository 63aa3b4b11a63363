/- One-time signatures: the reference's Secret. No condition beyond the ranges that are named. -/
import Derived.Test.YtjdbfedkadoklaaOtG
namespace Go.Proofs.Ytjdbfedkadoklaa
set_option linter.unusedVariables false
set_option linter.unusedSimpArgs false
set_option maxRecDepth 10000
open Go.RowKit
attribute [local go_sem ↓] Go.wp_at_zero Go.wp_at_succ

set_option maxHeartbeats 4000000 in
theorem rsecret_any (v : By 32) (leaf chain : Nat) (h1 : leaf ≤ 65535) (w : World) :
    Calls Try.prog 18 #[.agg (bs v.1).toArray, .int .i64 (leaf : Int), .int .i64 (chain : Int)] w fun e w' => e = .returned (.agg (bs (secB v.1 leaf chain)).toArray) ∧ Fr0 w w' := by
  have hb2 : ∀ w, (bsl 73 1 #[(0, .int .u8 (IntKind.u8.wrap (chain : Int)))]).run Try.prog w = .ok (.slice (some ⟨w.heap.size, 0, none⟩) 1 1) (w.alloc (.cells (bs [UInt8.ofNat chain]).toArray 5)) := fun w => by
    rw [wrap8o]; exact run_sl_n1 w chain
  have hsz : (bs v.1).toArray.size = 32 := by simp [v.2]
  obtain ⟨V, hV⟩ : ∃ V, V = (bs v.1).toArray := ⟨_, rfl⟩
  rw [← hV] at hsz ⊢
  obtain ⟨w2, hw2⟩ : ∃ w2, w2 = (w.alloc (.cells V 31)).alloc (.cells z16 36) := ⟨_, rfl⟩
  obtain ⟨hb0, hb1, hf, hs⟩ := alloc2 _ _ _ _ _ _ hw2
  have hbox : Rd w2 (w.heap.size + 1) (.slice (some ⟨w.heap.size, 0, none⟩) 32 32) v.1 := Rd.of_blk (by rw [hV] at hb0; exact hb0) 32 v.2 (by unfold maxLen; omega)
  obtain ⟨ho1, hx1, hf1⟩ := alloc_two w2 (headB 2 leaf) [UInt8.ofNat chain] 5 1 rfl rfl (by omega) (by omega) _ rfl
  obtain ⟨hx2, ho2, hf2⟩ := alloc_two w2 [UInt8.ofNat chain] (headB 2 leaf) 1 5 rfl rfl (by omega) (by omega) _ rfl
  obtain ⟨A1, c1, w3, A2, c2, w4, ra1, ra2, rd1, rf1⟩ := app_head 2 leaf [UInt8.ofNat chain] v.1 w2 _ _ _ _ 1 32 6 38 _ rfl rfl hf1 rfl v.2 (by omega) (by omega) ho1 (Sl.rd (Sl.of_own hx1)) (hbox.fr0 hf1) (by omega)
  obtain ⟨B1, d1, w5, B2, d2, w6, rb1, rb2, rd2, rf2⟩ := app_head 2 leaf [UInt8.ofNat chain] v.1 w2 _ _ _ _ 1 32 6 38 _ rfl rfl hf2 rfl v.2 (by omega) (by omega) ho2 (Sl.rd (Sl.of_own hx2)) (hbox.fr0 hf2) (by omega)
  have HV := Lib.hid hV
  have HB1 := Lib.hid hb1
  have HF := Lib.hid hf
  have HW := Lib.hid hw2
  have HRD1 := Lib.hid rd1
  have HRD2 := Lib.hid rd2
  have HRF1 := Lib.hid rf1
  have HRF2 := Lib.hid rf2
  have hst2 : ∀ (w : World) (b' p : Nat), okA w b' p 16 = true → (st 36 (.pointer (some ⟨b', p, none⟩)) (.agg (bs (secB v.1 leaf chain)).toArray)).run Try.prog w = .ok () (putW w b' p (bs (secB v.1 leaf chain)).toArray) := rv_st ⟨secB v.1 leaf chain, secB_length _ _ _⟩
  obtain ⟨Y, hY⟩ : ∃ Y, Y = (bs (secB v.1 leaf chain)).toArray := ⟨_, rfl⟩
  rw [← hY] at hst2
  have HY := Lib.hid hY
  have hYs : Y.size = 16 := by rw [hY]; simp [secB_length]
  have hone : ∀ u, u ∈ Y.toList → u.oneCell' = true := by rw [hY]; exact bs_one' _
  have hinfo := info_bulletin_bulletinref07_Value
  have HLN := Lib.hid (show (headB 2 leaf ++ [UInt8.ofNat chain] ++ v.1).length ≤ 1000000000 by simp)
  clear hb0 hb1 hf hs hw2 hV hbox ho1 hx1 hf1 ho2 hx2 hf2 rd1 rd2 rf1 rf2 hY
  go_enter Try.func18, Try.ntmps18
  go_wp2_with fail
  rw [← HW.out]
  go_region_held3 (fun _ => True) (trivial)
    (first
    | (go_at_call 39; refine (rhead_any 2 leaf h1 _).mono ?_; rintro e wh ⟨rfl, rfl⟩)
    | (go_at_call 38; with_reducible refine (rv_half _ _ _ w4 HRD1.out HLN.out).mono ?_; rintro e w7 ⟨rfl, hf7⟩
       rw [show halfB (headB 2 leaf ++ [UInt8.ofNat chain] ++ v.1) = secB v.1 leaf chain from rfl, ← HY.out]
       have HF7 := Lib.hid (HF.out.trans (HRF1.out.trans hf7))
       have HB7 := Lib.hid (HB1.out.fr (HRF1.out.trans hf7) (fun h => h))
       have hthere : w7.there (w.heap.size + 1) 0 16 := z16_there HB7.out
       have HSC := Lib.hid (z16_set HB7.out Y hYs)
       clear hf7)
    | (go_at_call 38; with_reducible refine (rv_half _ _ _ w6 HRD2.out HLN.out).mono ?_; rintro e w7 ⟨rfl, hf7⟩
       rw [show halfB (headB 2 leaf ++ [UInt8.ofNat chain] ++ v.1) = secB v.1 leaf chain from rfl, ← HY.out]
       have HF7 := Lib.hid (HF.out.trans (HRF2.out.trans hf7))
       have HB7 := Lib.hid (HB1.out.fr (HRF2.out.trans hf7) (fun h => h))
       have hthere : w7.there (w.heap.size + 1) 0 16 := z16_there HB7.out
       have HSC := Lib.hid (z16_set HB7.out Y hYs)
       clear hf7))
  all_goals
    rw [HSC.out]
    go_wp2_with fail
    refine bodyPost_agg (n := 16) (cs := Y) rfl Try.underlying36 rfl info_bulletin_bulletinref07_Value (by rfl) ?_ rfl ?_
    · exact ldA_put (n := 16) HB7.out Y hYs (by simp)
    · exact ⟨by rw [← HY.out], HF7.out.put (S := fun _ => False) (fun h => by omega) _ _⟩
end Go.Proofs.Ytjdbfedkadoklaa
