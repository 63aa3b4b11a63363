/- One-time signatures: the reference's head, Step, Secret, Advance. No condition beyond the ranges that are named. -/
import Derived.Test.YtjdbfedkadoklaaOtE
namespace Go.Proofs.Ytjdbfedkadoklaa
set_option linter.unusedVariables false
set_option linter.unusedSimpArgs false
set_option maxRecDepth 10000
open Go.RowKit
attribute [local go_sem ↓] Go.wp_at_zero Go.wp_at_succ

theorem run_sl_rhead (w : World) (tag : UInt8) (leaf : Nat) (h : leaf ≤ 65535) :
    (bsl 73 5 #[(0, Proofs.Ytjdbfedkadoklaa.u8 tag), (1, .int .u8 ((leaf : Int) / 16777216)), (2, .int .u8 ((leaf : Int) / 65536 % 256)), (3, .int .u8 ((leaf : Int) / 256 % 256)), (4, .int .u8 ((leaf : Int) % 256))]).run Try.prog w = .ok (.slice (some ⟨w.heap.size, 0, none⟩) 5 5) (w.alloc (.cells (bs (headB tag leaf)).toArray 5)) := by
  rw [show (leaf : Int) / 65536 % 256 = (leaf : Int) / 65536 by omega, show (leaf : Int) / 256 % 256 = (leaf : Int) / 256 by omega]
  exact run_sl_head w tag leaf h
set_option maxHeartbeats 1000000 in
theorem rhead_any (tag : UInt8) (leaf : Nat) (h : leaf ≤ 65535) (w : World) :
    Calls Try.prog 39 #[Proofs.Ytjdbfedkadoklaa.u8 tag, .int .i64 (leaf : Int)] w fun e w' => e = .returned (.slice (some ⟨w.heap.size, 0, none⟩) 5 5) ∧ w' = w.alloc (.cells (bs (headB tag leaf)).toArray 5) := by
  have hbsl := fun w => run_sl_rhead w tag leaf h
  go_enter Try.func39, Try.ntmps39
  go_wp2_with fail
  go_ret
  exact ⟨rfl, rfl⟩
/-- Two appends behind a head. -/
theorem app_head (tag : UInt8) (leaf : Nat) (x y : List UInt8) (w2 wA : World) (p q r n m N1 N2 B : Nat) (hN1 : 5 + n = N1) (hN2 : N1 + m = N2) (hf : Fr0 w2 wA) (hx : x.length = n) (hy : y.length = m) (hn : n ≤ 1000) (hm : m ≤ 1000)
    (ho : wA.ownsRow w2.heap.size 5 1 (.slice (some ⟨p, 0, none⟩) 5 5) 5 (bs (headB tag leaf))) (h1 : Rd wA wA.heap.size (.slice (some ⟨q, 0, none⟩) n n) x) (h2 : Rd wA B (.slice (some ⟨r, 0, none⟩) m m) y) (hB : B ≤ w2.heap.size) :
    ∃ A1 c1 w3 A2 c2 w4, (app #[73, 73] 73 #[.slice (some ⟨p, 0, none⟩) 5 5, .slice (some ⟨q, 0, none⟩) n n]).run Try.prog wA = .ok (.slice A1 N1 c1) w3 ∧
      (app #[73, 73] 73 #[.slice A1 N1 c1, .slice (some ⟨r, 0, none⟩) m m]).run Try.prog w3 = .ok (.slice A2 N2 c2) w4 ∧ Rd w4 w4.heap.size (.slice A2 N2 c2) (headB tag leaf ++ x ++ y) ∧ Fr0 w2 w4 := by
  obtain ⟨A1, c1, w3, hrun1, hown1, hG1, hge1, -⟩ := app_by wA (show wA.ownsRow w2.heap.size 5 1 (.slice (some ⟨p, 0, none⟩) 5 5) (headB tag leaf).length (bs (headB tag leaf)) from ho) h1 (by rw [headB_length]; omega) hf.size
  have hf3 := hf.then_ (S := fun _ => False) hG1 (fun i hi hk => by have := hge1 i hk; omega)
  have hr := h2.fr hG1 (fun k hk e => by have := hge1 k e; omega)
  obtain ⟨A2, c2, w4, hrun2, hown2, hG2, hge2, -⟩ := app_by w3 hown1 hr (by rw [List.length_append, headB_length]; omega) hf3.size
  have hf4 := hf3.then_ (S := fun _ => False) hG2 (fun i hi hk => by have := hge2 i hk; omega)
  have e1 : (headB tag leaf ++ x).length = N1 := by rw [List.length_append, headB_length, hx, hN1]
  have e2 : (headB tag leaf ++ x ++ y).length = N2 := by rw [List.length_append, e1, hy, hN2]
  have hrd := Sl.rd (Sl.of_own hown2)
  rw [e2] at hrd
  rw [e1] at hrun1
  rw [e1, e2] at hrun2
  exact ⟨A1, c1, w3, A2, c2, w4, hrun1, hrun2, hrd, hf4⟩
theorem alloc_two (w : World) (a b : List UInt8) (n m : Nat) (ha : a.length = n) (hb : b.length = m) (hn : n ≤ 1000) (hm : m ≤ 1000) (wA : World) (h : wA = ((w.alloc (.cells (bs a).toArray 5)).alloc (.cells (bs b).toArray 5)).drew) :
    wA.ownsRow w.heap.size 5 1 (.slice (some ⟨w.heap.size, 0, none⟩) n n) n (bs a) ∧ wA.ownsRow w.heap.size 5 1 (.slice (some ⟨w.heap.size + 1, 0, none⟩) m m) m (bs b) ∧ Fr0 w wA := by
  subst h
  refine ⟨own_fr0 (own_bsN w a n ha (by omega)) (((Fr.refl _ _).alloc _).drew), ?_, (((Fr.refl _ _).alloc _).alloc _).drew⟩
  have h := own_bsN (w.alloc (.cells (bs a).toArray 5)) b m hb (by omega)
  rw [show (w.alloc (.cells (bs a).toArray 5)).heap.size = w.heap.size + 1 by simp] at h
  exact own_fr0 (own_mono h (by omega)) ((Fr.refl _ _).drew)

theorem z16_there {w : World} {g : Nat} {t : TypeId} (h : Blk w g t z16) : w.there g 0 16 := fun j hj => by
  rw [Nat.zero_add]
  refine ⟨?_, h.frozen j⟩
  rw [h.cell j, Array.getElem?_eq_getElem (show j < z16.size from hj)]; rfl
theorem z16_set {w : World} {g : Nat} {t : TypeId} (h : Blk w g t z16) (Y : Array Value) (hY : Y.size = 16) : w.setCells g 0 Y.toList = putW w g 0 Y := by
  rw [setCells_putW g Y.toList 0 w z16 t (0, 0) h (by rw [Array.length_toList, hY]; exact Nat.le_refl 16)]
theorem wrap8o (n : Nat) : IntKind.u8.wrap (n : Int) = (n : Int) % 256 := by simp [IntKind.wrap, IntKind.bits, IntKind.signed]

set_option maxHeartbeats 4000000 in
theorem rstep_any (leaf chain at_ : Nat) (h1 : leaf ≤ 65535) (v : By 16) (w : World) :
    Calls Try.prog 21 #[.int .i64 (leaf : Int), .int .i64 (chain : Int), .int .i64 (at_ : Int), .agg (bs v.1).toArray] w fun e w' => e = .returned (.agg (bs (stepB leaf chain at_ v.1)).toArray) ∧ Fr0 w w' := by
  have hb2 : ∀ w, (bsl 73 2 #[(0, .int .u8 (IntKind.u8.wrap (chain : Int))), (1, .int .u8 (IntKind.u8.wrap (at_ : Int)))]).run Try.prog w = .ok (.slice (some ⟨w.heap.size, 0, none⟩) 2 2) (w.alloc (.cells (bs [UInt8.ofNat chain, UInt8.ofNat at_]).toArray 5)) := fun w => by
    rw [wrap8o, wrap8o]; exact run_sl_n2 w chain at_
  have hsz : (bs v.1).toArray.size = 16 := by simp [v.2]
  obtain ⟨V, hV⟩ : ∃ V, V = (bs v.1).toArray := ⟨_, rfl⟩
  rw [← hV] at hsz ⊢
  obtain ⟨w2, hw2⟩ : ∃ w2, w2 = (w.alloc (.cells V 36)).alloc (.cells z16 36) := ⟨_, rfl⟩
  obtain ⟨hb0, hb1, hf, hs⟩ := alloc2 _ _ _ _ _ _ hw2
  have hbox : Rd w2 (w.heap.size + 1) (.slice (some ⟨w.heap.size, 0, none⟩) 16 16) v.1 := Rd.of_blk (by rw [hV] at hb0; exact hb0) 16 v.2 (by unfold maxLen; omega)
  obtain ⟨ho1, hx1, hf1⟩ := alloc_two w2 (headB 3 leaf) [UInt8.ofNat chain, UInt8.ofNat at_] 5 2 rfl rfl (by omega) (by omega) _ rfl
  obtain ⟨hx2, ho2, hf2⟩ := alloc_two w2 [UInt8.ofNat chain, UInt8.ofNat at_] (headB 3 leaf) 2 5 rfl rfl (by omega) (by omega) _ rfl
  obtain ⟨A1, c1, w3, A2, c2, w4, ra1, ra2, rd1, rf1⟩ := app_head 3 leaf [UInt8.ofNat chain, UInt8.ofNat at_] v.1 w2 _ _ _ _ 2 16 7 23 _ rfl rfl hf1 rfl v.2 (by omega) (by omega) ho1 (Sl.rd (Sl.of_own hx1)) (hbox.fr0 hf1) (by omega)
  obtain ⟨B1, d1, w5, B2, d2, w6, rb1, rb2, rd2, rf2⟩ := app_head 3 leaf [UInt8.ofNat chain, UInt8.ofNat at_] v.1 w2 _ _ _ _ 2 16 7 23 _ rfl rfl hf2 rfl v.2 (by omega) (by omega) ho2 (Sl.rd (Sl.of_own hx2)) (hbox.fr0 hf2) (by omega)
  have HV := Lib.hid hV
  have HB1 := Lib.hid hb1
  have HF := Lib.hid hf
  have HW := Lib.hid hw2
  have HRD1 := Lib.hid rd1
  have HRD2 := Lib.hid rd2
  have HRF1 := Lib.hid rf1
  have HRF2 := Lib.hid rf2
  have hst2 : ∀ (w : World) (b' p : Nat), okA w b' p 16 = true → (st 36 (.pointer (some ⟨b', p, none⟩)) (.agg (bs (stepB leaf chain at_ v.1)).toArray)).run Try.prog w = .ok () (putW w b' p (bs (stepB leaf chain at_ v.1)).toArray) := rv_st ⟨stepB leaf chain at_ v.1, stepB_length _ _ _ _⟩
  obtain ⟨Y, hY⟩ : ∃ Y, Y = (bs (stepB leaf chain at_ v.1)).toArray := ⟨_, rfl⟩
  rw [← hY] at hst2
  have HY := Lib.hid hY
  have hYs : Y.size = 16 := by rw [hY]; simp [stepB_length]
  have hone : ∀ u, u ∈ Y.toList → u.oneCell' = true := by rw [hY]; exact bs_one' _
  have hinfo := info_bulletin_bulletinref07_Value
  have HLN := Lib.hid (show (headB 3 leaf ++ [UInt8.ofNat chain, UInt8.ofNat at_] ++ v.1).length ≤ 1000000000 by simp)
  clear hb0 hb1 hf hs hw2 hV hbox ho1 hx1 hf1 ho2 hx2 hf2 rd1 rd2 rf1 rf2 hY
  go_enter Try.func21, Try.ntmps21
  go_wp2_with fail
  rw [← HW.out]
  go_region_held3 (fun _ => True) (trivial)
    (first
    | (go_at_call 39; refine (rhead_any 3 leaf h1 _).mono ?_; rintro e wh ⟨rfl, rfl⟩)
    | (go_at_call 38; with_reducible refine (rv_half _ _ _ w4 HRD1.out HLN.out).mono ?_; rintro e w7 ⟨rfl, hf7⟩
       rw [show halfB (headB 3 leaf ++ [UInt8.ofNat chain, UInt8.ofNat at_] ++ v.1) = stepB leaf chain at_ v.1 from rfl, ← HY.out]
       have HF7 := Lib.hid (HF.out.trans (HRF1.out.trans hf7))
       have HB7 := Lib.hid (HB1.out.fr (HRF1.out.trans hf7) (fun h => h))
       have hthere : w7.there (w.heap.size + 1) 0 16 := z16_there HB7.out
       have HSC := Lib.hid (z16_set HB7.out Y hYs)
       clear hf7)
    | (go_at_call 38; with_reducible refine (rv_half _ _ _ w6 HRD2.out HLN.out).mono ?_; rintro e w7 ⟨rfl, hf7⟩
       rw [show halfB (headB 3 leaf ++ [UInt8.ofNat chain, UInt8.ofNat at_] ++ v.1) = stepB leaf chain at_ v.1 from rfl, ← HY.out]
       have HF7 := Lib.hid (HF.out.trans (HRF2.out.trans hf7))
       have HB7 := Lib.hid (HB1.out.fr (HRF2.out.trans hf7) (fun h => h))
       have hthere : w7.there (w.heap.size + 1) 0 16 := z16_there HB7.out
       have HSC := Lib.hid (z16_set HB7.out Y hYs)
       clear hf7))
  all_goals
    rw [HSC.out]
    go_wp2_with fail
    refine bodyPost_agg (n := 16) (cs := Y) rfl Try.underlying36 rfl info_bulletin_bulletinref07_Value (by rfl) ?_ rfl ?_
    · exact ldA_put (n := 16) HB7.out Y hYs (by simp)
    · exact ⟨by rw [← HY.out], HF7.out.put (S := fun _ => False) (fun h => by omega) _ _⟩
end Go.Proofs.Ytjdbfedkadoklaa
