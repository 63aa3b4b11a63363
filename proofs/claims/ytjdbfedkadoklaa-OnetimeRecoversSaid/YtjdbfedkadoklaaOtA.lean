/- One-time signatures: what is hashed, one step, a chain. No condition beyond the ranges that are named. -/
import Derived.Test.YtjdbfedkadoklaaOt
namespace Go.Proofs.Ytjdbfedkadoklaa
set_option linter.unusedVariables false
set_option linter.unusedSimpArgs false
set_option maxRecDepth 10000
open Go.RowKit
attribute [local go_sem ↓] Go.wp_at_zero Go.wp_at_succ

theorem within_any (n m : Int) (w : World) : Calls Try.prog 40 #[.int .i64 n, .int .i64 m] w fun e w' => e = .returned (.bool (decide (0 ≤ n ∧ n ≤ m))) ∧ w = w' := by
  by_cases h1 : 0 ≤ n
  · by_cases h2 : n ≤ m
    · go_enter Try.func40, Try.ntmps40
      go_wp2_with fail
      go_ret
      exact ⟨by simp [h1, h2], rfl⟩
    · go_enter Try.func40, Try.ntmps40
      go_wp2_with fail
      go_ret
      exact ⟨by simp [h1, h2], rfl⟩
  · go_enter Try.func40, Try.ntmps40
    go_wp2_with fail
    go_ret
    exact ⟨by simp; omega, rfl⟩
theorem valid_any (n m : Int) (w : World) : Calls Try.prog 36 #[.int .i64 n, .int .i64 m] w fun e w' => e = .returned (.bool (decide ((0 ≤ n ∧ n ≤ 65535) ∧ (0 ≤ m ∧ m ≤ 34)))) ∧ w = w' := by
  by_cases h1 : 0 ≤ n ∧ n ≤ 65535
  · go_enter Try.func36, Try.ntmps36
    go_wp2_with fail
    refine (within_any _ _ _).mono ?_
    rintro e w1 ⟨rfl, rfl⟩
    simp only [h1, and_self, decide_true]
    go_wp2_with fail
    refine (within_any _ _ _).mono ?_
    rintro e w1 ⟨rfl, rfl⟩
    go_wp2_with fail
    go_ret
    exact ⟨by simp; intros; exact h1, rfl⟩
  · go_enter Try.func36, Try.ntmps36
    go_wp2_with fail
    refine (within_any _ _ _).mono ?_
    rintro e w1 ⟨rfl, rfl⟩
    simp only [h1, decide_false]
    go_wp2_with fail
    go_ret
    exact ⟨by simp [h1], rfl⟩
theorem in_any (n m : Int) (w : World) : Calls Try.prog 17 #[.int .i64 n, .int .i64 m] w fun e w' => e = .returned (.bool (decide (0 ≤ n ∧ n ≤ m))) ∧ w = w' := by
  by_cases h1 : 0 ≤ n
  · by_cases h2 : n ≤ m
    · go_enter Try.func17, Try.ntmps17
      go_wp2_with fail
      go_ret
      exact ⟨by simp [h1, h2], rfl⟩
    · go_enter Try.func17, Try.ntmps17
      go_wp2_with fail
      go_ret
      exact ⟨by simp [h1, h2], rfl⟩
  · go_enter Try.func17, Try.ntmps17
    go_wp2_with fail
    go_ret
    exact ⟨by simp; omega, rfl⟩

theorem bs_head (tag : UInt8) (leaf : Nat) (h : leaf ≤ 65535) : #[Proofs.Ytjdbfedkadoklaa.u8 tag, .int .u8 0, .int .u8 0, Value.int .u8 ((leaf / 256 : Nat) : Int), Value.int .u8 ((leaf % 256 : Nat) : Int)] = (bs (headB tag leaf)).toArray := by
  have h1 : (UInt8.ofNat (leaf / 256)).toNat = leaf / 256 := by rw [UInt8.toNat_ofNat']; omega
  have h2 : (UInt8.ofNat leaf).toNat = leaf % 256 := by rw [UInt8.toNat_ofNat']
  simp only [bs, headB, List.map_cons, List.map_nil, Proofs.Ytjdbfedkadoklaa.u8, h1, h2]
  rfl

theorem own_bsN (w : World) (l : List UInt8) (n : Nat) (hn : l.length = n) (hm : n ≤ 1000000) : (w.alloc (.cells (bs l).toArray 5)).ownsRow w.heap.size 5 1 (.slice (some ⟨w.heap.size, 0, none⟩) n n) n (bs l) :=
  ⟨by simp [hn], .inr ⟨w.heap.size, n, (bs l).toArray, rfl, Nat.le_refl _, alloc_heap_new w _, Nat.le_refl _, by unfold maxLen; omega, by simp [hn], by simp; exact List.take_of_length_le (by simp [hn])⟩⟩
theorem run_sl_head (w : World) (tag : UInt8) (leaf : Nat) (h : leaf ≤ 65535) :
    (bsl 73 5 #[(0, Proofs.Ytjdbfedkadoklaa.u8 tag), (1, .int .u8 ((leaf : Int) / 16777216)), (2, .int .u8 ((leaf : Int) / 65536)), (3, .int .u8 ((leaf : Int) / 256)), (4, .int .u8 ((leaf : Int) % 256))]).run Try.prog w = .ok (.slice (some ⟨w.heap.size, 0, none⟩) 5 5) (w.alloc (.cells (bs (headB tag leaf)).toArray 5)) := by
  rw [← bs_head tag leaf h, show (leaf : Int) / 16777216 = 0 by omega, show (leaf : Int) / 65536 = 0 by omega, show (leaf : Int) / 256 = ((leaf / 256 : Nat) : Int) by omega, show (leaf : Int) % 256 = ((leaf % 256 : Nat) : Int) by omega]
  kernel_rfl
theorem flat_len {rest : List (List UInt8)} (k : Nat) (h : ∀ x ∈ rest, x.length ≤ 1000) : (rest.take k).flatten.length ≤ 1000 * k := by
  induction k generalizing rest with
  | zero => simp
  | succ k ih =>
    cases rest with
    | nil => simp
    | cons x r =>
      simp only [List.take_succ_cons, List.flatten_cons, List.length_append]
      have h1 := h x (by simp)
      have h2 := ih (rest := r) (fun y hy => h y (by simp [hy]))
      omega

set_option maxHeartbeats 2000000 in
theorem hash_any (tag : UInt8) (leaf : Nat) (hleaf : leaf ≤ 65535) (rest : List (List UInt8)) (vs : List Value) (A : Option Addr) (c : Nat) (w : World)
    (hs : Sl w 73 1 (.slice A rest.length c) rest.length vs) (hr : ∀ (i : Nat) (h : i < rest.length), ∃ v, vs[i]? = some v ∧ Rd w w.heap.size v rest[i]) (hn0 : 0 < rest.length) (hn : rest.length ≤ 10) (hl : ∀ x ∈ rest, x.length ≤ 1000) :
    Calls Try.prog 48 #[Proofs.Ytjdbfedkadoklaa.u8 tag, .int .i64 (leaf : Int), .slice A rest.length c] w fun e w' => e = .returned (.agg (bs (halfB (headB tag leaf ++ rest.flatten))).toArray) ∧ Fr0 w w' := by
  obtain ⟨b, off, rfl, hb, hx⟩ := hs.at_ hn0
  have HX := Lib.hid hx
  have HR := Lib.hid hr
  have HL := Lib.hid hl
  have hbd := hs.bounds
  have hbsl := fun w => run_sl_head w tag leaf hleaf
  obtain ⟨n, hnn⟩ : ∃ n, n = rest.length := ⟨_, rfl⟩
  rw [← hnn] at hbd ⊢
  have hnc := hbd.1
  have HN := Lib.hid hnn
  have HNN := Lib.hid hn
  have hw1 : Fr0 w (w.alloc (.cells #[Value.int IntKind.u8 0, Value.int IntKind.u8 0, Value.int IntKind.u8 0, Value.int IntKind.u8 0, Value.int IntKind.u8 0, Value.int IntKind.u8 0, Value.int IntKind.u8 0, Value.int IntKind.u8 0, Value.int IntKind.u8 0, Value.int IntKind.u8 0, Value.int IntKind.u8 0, Value.int IntKind.u8 0, Value.int IntKind.u8 0, Value.int IntKind.u8 0, Value.int IntKind.u8 0, Value.int IntKind.u8 0] 22)) := (Fr.refl _ _).alloc _
  have hbk : Blk (w.alloc (.cells #[Value.int IntKind.u8 0, Value.int IntKind.u8 0, Value.int IntKind.u8 0, Value.int IntKind.u8 0, Value.int IntKind.u8 0, Value.int IntKind.u8 0, Value.int IntKind.u8 0, Value.int IntKind.u8 0, Value.int IntKind.u8 0, Value.int IntKind.u8 0, Value.int IntKind.u8 0, Value.int IntKind.u8 0, Value.int IntKind.u8 0, Value.int IntKind.u8 0, Value.int IntKind.u8 0, Value.int IntKind.u8 0] 22)) w.heap.size 22 (bs (List.replicate 16 0)).toArray := Blk.new w _ _
  obtain ⟨w1, hw⟩ : ∃ w1, w1 = w.alloc (.cells #[Value.int IntKind.u8 0, Value.int IntKind.u8 0, Value.int IntKind.u8 0, Value.int IntKind.u8 0, Value.int IntKind.u8 0, Value.int IntKind.u8 0, Value.int IntKind.u8 0, Value.int IntKind.u8 0, Value.int IntKind.u8 0, Value.int IntKind.u8 0, Value.int IntKind.u8 0, Value.int IntKind.u8 0, Value.int IntKind.u8 0, Value.int IntKind.u8 0, Value.int IntKind.u8 0, Value.int IntKind.u8 0] 22) := ⟨_, rfl⟩
  rw [← hw] at hw1 hbk
  have hs1 : w1.heap.size = w.heap.size + 1 := by rw [hw]; simp
  have HO := Lib.hid (show (w1.alloc (.cells (bs (headB tag leaf)).toArray 5)).ownsRow (w.heap.size + 1) 5 1 (.slice (some ⟨w.heap.size + 1, 0, none⟩) 5 5) 5 (bs (headB tag leaf)) from by have := own_bsN w1 (headB tag leaf) 5 rfl (by omega); rwa [hs1] at this)
  have HS1 := Lib.hid hs1
  have HF1 := Lib.hid (hw1.alloc (.cells (bs (headB tag leaf)).toArray 5))
  have HB1 := Lib.hid (hbk.alloc (.cells (bs (headB tag leaf)).toArray 5))
  have HW := Lib.hid hw
  have HW1 := Lib.hid hw1
  clear hs hx hr hl hnn hbd hw1 hbk hw hn hn0 hs1
  go_enter Try.func48, Try.ntmps48
  go_wp2_with fail
  rw [← HW.out]
  go_loopw [7, 25] (fun vv iv wr => ∃ k : Nat, k ≤ n ∧ iv = .int .i64 k ∧ wr.ownsRow (w.heap.size + 1) 5 1 vv (headB tag leaf ++ (rest.take k).flatten).length (bs (headB tag leaf ++ (rest.take k).flatten)) ∧ Fr0 w wr ∧ Blk wr w.heap.size 22 (bs (List.replicate 16 0)).toArray ∧ w.heap.size + 1 ≤ wr.heap.size) (fun _ iv _ => n - (intOf iv).toNat)
  case atStart =>
    exact ⟨0, by omega, rfl, by simpa using HO.out, HF1.out, HB1.out, by simp [HS1.out]⟩
  case round =>
    obtain ⟨k, hk, rfl, hown, hf, hB, hsz⟩ := hrel
    obtain ⟨Ar, cr, rfl, hc1, hc2⟩ := own_form hown
    have hfl := flat_len (rest := rest) k HL.out
    have hk10 : k ≤ 10 := by have := HN.out; have := HNN.out; omega
    obtain ⟨P, hP⟩ : ∃ P, P = headB tag leaf ++ (rest.take k).flatten := ⟨_, rfl⟩
    have hPl : P.length ≤ 20000 := by rw [hP, List.length_append, headB_length]; omega
    rw [← hP] at hown hc1 ⊢
    by_cases hlt : k < n
    · have z0 : (k : Int) < (n : Int) := by omega
      have hkl : k < rest.length := by have := HN.out; omega
      obtain ⟨v, hv, hr⟩ := HR.out k hkl
      obtain ⟨x, hxx⟩ : ∃ x, x = rest[k] := ⟨_, rfl⟩
      rw [← hxx] at hr
      have hxl : x.length ≤ 1000 := by rw [hxx]; exact HL.out _ (List.getElem_mem hkl)
      have hcell := (hf.cell (p := ⟨b, off + k, none⟩) hb (fun h => h)).trans (HX.out k v hv)
      obtain ⟨Ax, cx, rfl, hx1, hx2⟩ := hr.form
      obtain ⟨A2, c2, w2, hrun2, hown2, hG2, hge2, -⟩ := app_by wr hown (hr.fr0 hf) (by omega) hsz
      have hF2 := hf.then_ hG2 (fun i hi hk => by have := hge2 i hk; omega)
      have hB2 := hB.fr hG2 (fun e => by have := hge2 _ e; omega)
      have hps : P ++ x = headB tag leaf ++ (rest.take (k + 1)).flatten := by rw [hP, hxx, List.take_succ_eq_append_getElem hkl, List.flatten_append, List.flatten_cons, List.flatten_nil, List.append_nil, List.append_assoc]
      obtain ⟨N0, hN0⟩ : ∃ N, N = P.length := ⟨_, rfl⟩
      obtain ⟨M, hM⟩ : ∃ N, N = (P ++ x).length := ⟨_, rfl⟩
      obtain ⟨Nx, hNx⟩ : ∃ N, N = x.length := ⟨_, rfl⟩
      rw [← hM, ← hN0, ← hNx] at hrun2
      rw [← hM] at hown2
      rw [← hN0] at hc1 ⊢
      rw [← hNx] at hcell hx1
      have HO2 := Lib.hid hown2
      have HF2 := Lib.hid hF2
      have HB2 := Lib.hid hB2
      have HPS := Lib.hid hps
      have HM := Lib.hid hM
      have HS2 := Lib.hid (Nat.le_trans hsz hG2.size)
      clear hown hf hB hsz hfl hP hPl hv hr hxx hxl hown2 hG2 hge2 hF2 hB2 hps hN0 hM hNx
      go_wp2_with fail
      clear hcell hrun2
      go_roundw
      case rel =>
        have h1 := HO2.out
        have h2 := HM.out
        rw [HPS.out] at h1 h2
        rw [h2] at h1 ⊢
        first
        | exact ⟨k + 1, by omega, by go_num, h1, HF2.out, HB2.out, HS2.out⟩
        | ((repeat apply Exists.intro); exact ⟨⟨k + 1, by omega, by go_num, h1, HF2.out, HB2.out, HS2.out⟩, rfl⟩)
      case measure => simp [intOf]; omega
    · have hkn : k = n := by omega
      subst hkn
      have hall : P = headB tag leaf ++ rest.flatten := by rw [hP, HN.out, List.take_length]
      have hrd := Sl.rd (Sl.of_own hown)
      obtain ⟨N0, hN0⟩ : ∃ N, N = P.length := ⟨_, rfl⟩
      rw [← hN0] at hrd hc1 ⊢
      have HRD := Lib.hid hrd
      have HALL := Lib.hid hall
      have HPL := Lib.hid hPl
      have HF := Lib.hid hf
      have HB := Lib.hid hB
      clear hP hown hrd hall hPl hf hB hN0 hfl
      go_wp2_with fail
      refine (shalf_any P _ _ wr HRD.out (by have := HPL.out; omega)).mono ?_
      rintro e w3 ⟨rfl, hf3⟩
      rw [HALL.out]
      have hst2 := a16_st (halfY (headB tag leaf ++ rest.flatten))
      change ∀ (w : World) (b' p : Nat), okA w b' p 16 = true → (st 22 (.pointer (some ⟨b', p, none⟩)) (.agg (bs (halfB (headB tag leaf ++ rest.flatten))).toArray)).run Try.prog w = .ok () (putW w b' p (bs (halfB (headB tag leaf ++ rest.flatten))).toArray) at hst2
      have hB3 := HB.out.fr hf3 (fun h => h)
      have hok := hB3.okA 0 16 (by simp)
      have hput := ldA_put (n := 16) hB3 (bs (halfB (headB tag leaf ++ rest.flatten))).toArray (by simp [halfB_length]) (by simp)
      have HP := Lib.hid hput
      have HF3 := Lib.hid (HF.out.trans hf3)
      clear hf3 hB3 hput
      go_wp2_with fail
      refine bodyPost_agg (n := 16) (cs := (bs (halfB (headB tag leaf ++ rest.flatten))).toArray) rfl Try.underlying22 rfl info__16_uint8 (by rfl) ?_ rfl ?_
      · exact HP.out
      · exact ⟨rfl, HF3.out.put (S := fun _ => False) (fun h => by omega) _ _⟩
end Go.Proofs.Ytjdbfedkadoklaa
