/- One-time signatures: the reference's Half and head. No condition beyond the ranges that are named. -/
import Derived.Test.YtjdbfedkadoklaaOtD
import Derived.Test.YtjdbfedkadoklaaShaH
namespace Go.Proofs.Ytjdbfedkadoklaa
set_option linter.unusedVariables false
set_option linter.unusedSimpArgs false
set_option maxRecDepth 10000
open Go.RowKit
attribute [local go_sem ↓] Go.wp_at_zero Go.wp_at_succ

theorem info_bulletin_bulletinref07_Value : (Try.prog.info? 36).map (·.size) = some 16 := by kernel_rfl
@[go_sem ↓] theorem ex_ld_bulletin_bulletinref07_Value (ρ : Operand → Value) (dst : Option Tmp) (x : Operand) (ty : TypeId) (pos : String) (aft : Array Edge) (gd : Option (Nat × Bool)) :
    execOp ρ ⟨dst, .load 36 x, ty, pos, aft, gd⟩ = (do pure (.value (← ld 36 (ρ x)))) := rfl
@[go_sem] theorem run_ld_bulletin_bulletinref07_Value (w : World) (b o : Nat) (h : (ldA w b o 16).isSome = true) :
    (ld 36 (.pointer (some ⟨b, o, none⟩))).run Try.prog w = .ok (.agg ((ldA w b o 16).getD #[])) w := run_ld w Try.underlying36 rfl info_bulletin_bulletinref07_Value b o h
@[go_sem ↓] theorem ex_st_bulletin_bulletinref07_Value (ρ : Operand → Value) (dst : Option Tmp) (x y : Operand) (ty : TypeId) (pos : String) (aft : Array Edge) (gd : Option (Nat × Bool)) :
    execOp ρ ⟨dst, .store 36 x y, ty, pos, aft, gd⟩ = (do st 36 (ρ x) (ρ y); pure .skip) := rfl
@[go_sem] theorem run_st_bulletin_bulletinref07_Value (w : World) (b o : Nat) (cs : Array Value) (hs : cs.size = 16) (h1 : cs.all (·.oneCell') = true) (h : okA w b o 16 = true) :
    (st 36 (.pointer (some ⟨b, o, none⟩)) (.agg cs)).run Try.prog w = .ok () (putW w b o cs) := run_st w cs (by rw [info_bulletin_bulletinref07_Value, hs]) h1 b o (by rw [hs]; exact h)
@[go_sem ↓] theorem ex_eq_bulletin_bulletinref07_Value (x y : Value) : binOp .eql 36 x y = eqv 36 x y := rfl
@[go_sem ↓] theorem ex_ne_bulletin_bulletinref07_Value (x y : Value) : binOp .neq 36 x y = nev 36 x y := rfl
theorem guard_bulletin_bulletinref07_Value : Try.prog.eqGuardType Try.prog.depth 36 = false := by kernel_rfl
@[go_sem] theorem run_guard_bulletin_bulletinref07_Value (w : World) (op : BinOp) (x y : Operand) (xs ys : Array Value) : (eqGuard op 36 x y (.agg xs) (.agg ys)).run Try.prog w = .ok () w := run_eqGuard_agg w op _ x y xs ys guard_bulletin_bulletinref07_Value
theorem val_bulletin_bulletinref07_Value (cs : List Value) : valOf Try.prog 36 cs = .agg cs.toArray := by simp only [valOf, Try.underlying36]

theorem rv_st (y : By 16) (w : World) (b p : Nat) (h : okA w b p 16 = true) : (st 36 (.pointer (some ⟨b, p, none⟩)) (.agg (bs y.1).toArray)).run Try.prog w = .ok () (putW w b p (bs y.1).toArray) :=
  run_st w _ (by rw [info_bulletin_bulletinref07_Value]; simp [y.2]) (by have := bs_one' y.1; simpa using this) b p (by simpa [y.2] using h)
theorem fill8 {n k : Nat} (l : List UInt8) (hl : n ≤ l.length) (hk : k < n) : (bs (l.take k ++ List.replicate (n - k) 0)).toArray.setIfInBounds k (Proofs.Ytjdbfedkadoklaa.u8 (l.getD k 0)) = (bs (l.take (k + 1) ++ List.replicate (n - (k + 1)) 0)).toArray := by
  have h1 : (l.take k).length = k := by simp; omega
  have e : l.getD k 0 = l[k]'(by omega) := by simp [List.getD, (by omega : k < l.length)]
  rw [List.setIfInBounds_toArray]
  congr 1
  rw [e]
  unfold bs
  rw [← List.map_set, List.set_append_right _ _ (by omega), h1, Nat.sub_self, show n - k = (n - (k + 1)) + 1 by omega, List.replicate_succ, List.set_cons_zero, List.take_succ_eq_append_getElem (by omega : k < l.length), List.append_assoc, List.singleton_append]

set_option maxHeartbeats 2000000 in
theorem rv_half (l : List UInt8) (B : Nat) (v : Value) (w : World) (hs : Rd w B v l) (hl : l.length ≤ 1000000000) :
    Calls Try.prog 38 #[v] w fun e w' => e = .returned (.agg (bs (halfB l)).toArray) ∧ Fr0 w w' := by
  obtain ⟨A, c, rfl, h1, h2⟩ := hs.form
  have HS := Lib.hid (hs.alloc (.cells z16 36))
  have HZ := Lib.hid (Blk.new w 36 z16)
  have HF := Lib.hid ((Fr.refl (fun _ => False) w).alloc (.cells z16 36))
  clear hs
  go_enter Try.func38, Try.ntmps38
  go_wp2_with fail
  refine (rsum_any l B _ _ HS.out hl).mono ?_
  rintro e w1 ⟨rfl, hf1⟩
  have hst : ∀ (w : World) (b' p : Nat), okA w b' p 32 = true → (st 31 (.pointer (some ⟨b', p, none⟩)) (.agg (bs (sumB l)).toArray)).run Try.prog w = .ok () (putW w b' p (bs (sumB l)).toArray) := a32_st (sumY l)
  have hsz : (bs (sumB l)).toArray.size = 32 := by simp [sumB_length]
  obtain ⟨D, hD⟩ : ∃ D, D = (bs (sumB l)).toArray := ⟨_, rfl⟩
  rw [← hD] at hst hsz ⊢
  obtain ⟨w2, hw2⟩ : ∃ w2, w2 = (w1.alloc (.cells D 31)).alloc (.cells z16 36) := ⟨_, rfl⟩
  obtain ⟨hb0, hb1, hf2, hs2⟩ := alloc2 _ _ _ _ _ _ hw2
  have HB0 := Lib.hid hb0
  have HB1 := Lib.hid hb1
  have HB2 := Lib.hid ((HZ.out.fr hf1 (fun h => h)).fr hf2 (fun h => h))
  have HF2 := Lib.hid ((HF.out.trans hf1).trans hf2)
  have HD := Lib.hid hD
  have HW := Lib.hid hw2
  have HG := Lib.hid (show w.heap.size < w1.heap.size from by have := hf1.size; simp at this; omega)
  clear hb0 hb1 hf1 hf2 hs2 hw2 hD
  go_wp2_with fail
  rw [← HW.out]
  go_loopw [5] (fun iv wr => ∃ k : Nat, k ≤ 16 ∧ iv = .int .i64 k ∧ Blk wr (w1.heap.size + 1) 36 (bs ((sumB l).take k ++ List.replicate (16 - k) 0)).toArray ∧ Blk wr w1.heap.size 31 D ∧ Blk wr w.heap.size 36 z16 ∧ Fr0 w wr) (fun iv _ => 16 - (intOf iv).toNat)
  case atStart => exact ⟨0, by omega, rfl, HB1.out, HB0.out, HB2.out, HF2.out⟩
  case round =>
    obtain ⟨k, hk, rfl, hV, hDr, hZr, hF⟩ := hrel
    by_cases hlt : k < 16
    · have z0 : (k : Int) < 16 := by omega
      have hc : wr.cell? ⟨w1.heap.size, k, none⟩ = some (Proofs.Ytjdbfedkadoklaa.u8 ((sumB l).getD k 0)) := by
        rw [hDr.cell k, HD.out]
        simp [bs, List.getD, sumB_length, (by omega : k < 32)]
        rw [List.getElem?_eq_getElem (by rw [sumB_length]; omega)]; rfl
      have hc0 : wr.cell? ⟨w1.heap.size + 1, k, none⟩ = (bs ((sumB l).take k ++ List.replicate (16 - k) 0)).toArray[k]? := hV.cell k
      obtain ⟨y, hy⟩ : ∃ y, (bs ((sumB l).take k ++ List.replicate (16 - k) 0)).toArray[k]? = some y := ⟨_, Array.getElem?_eq_getElem (by simp [sumB_length]; omega)⟩
      rw [hy] at hc0
      have hfz := hV.frozen k
      have hV2 := hV.set_ k (Proofs.Ytjdbfedkadoklaa.u8 ((sumB l).getD k 0))
      rw [fill8 (sumB l) (by rw [sumB_length]; omega) hlt] at hV2
      have hD2 := hDr.far (p := ⟨w1.heap.size + 1, k, none⟩) (by dsimp only; omega) (Proofs.Ytjdbfedkadoklaa.u8 ((sumB l).getD k 0))
      have hZ2 := hZr.far (p := ⟨w1.heap.size + 1, k, none⟩) (by have := HG.out; dsimp only; omega) (Proofs.Ytjdbfedkadoklaa.u8 ((sumB l).getD k 0))
      have hF2 := hF.setCell (p := ⟨w1.heap.size + 1, k, none⟩) (fun h => by have := HG.out; dsimp only at h; omega) (Proofs.Ytjdbfedkadoklaa.u8 ((sumB l).getD k 0))
      obtain ⟨x, hx⟩ : ∃ x, x = (sumB l).getD k 0 := ⟨_, rfl⟩
      rw [← hx] at hc hV2 hD2 hZ2 hF2
      have H1 := Lib.hid hV2
      have H2 := Lib.hid hD2
      have H3 := Lib.hid hZ2
      have H4 := Lib.hid hF2
      clear hV hDr hZr hF hy hV2 hD2 hZ2 hF2 hx
      go_wp2_with fail
      clear hc hc0 hfz
      go_roundw
      case rel =>
        first
        | exact ⟨k + 1, by omega, by go_num, H1.out, H2.out, H3.out, H4.out⟩
        | ((repeat apply Exists.intro); exact ⟨⟨k + 1, by omega, by go_num, H1.out, H2.out, H3.out, H4.out⟩, rfl⟩)
      case measure => simp [intOf]; omega
    · have hk16 : k = 16 := by omega
      subst hk16
      have hh : (bs ((sumB l).take 16 ++ List.replicate (16 - 16) 0)).toArray = (bs (halfB l)).toArray := by simp [halfB]
      rw [hh] at hV
      have hld := by_load hV (halfB_length l)
      have hst2 : ∀ (w : World) (b' p : Nat), okA w b' p 16 = true → (st 36 (.pointer (some ⟨b', p, none⟩)) (.agg (bs (halfB l)).toArray)).run Try.prog w = .ok () (putW w b' p (bs (halfB l)).toArray) := rv_st (halfY l)
      have hok := hZr.okA 0 16 (by simp)
      have hput := ldA_put (n := 16) hZr (bs (halfB l)).toArray (by simp [halfB_length]) (by simp)
      have HP := Lib.hid hput
      have HF := Lib.hid hF
      clear hV hDr hZr hF hh hput
      go_wp2_with fail
      refine bodyPost_agg (n := 16) (cs := (bs (halfB l)).toArray) rfl Try.underlying36 rfl info_bulletin_bulletinref07_Value (by rfl) ?_ rfl ?_
      · exact HP.out
      · exact ⟨rfl, HF.out.put (S := fun _ => False) (fun h => by omega) _ _⟩
end Go.Proofs.Ytjdbfedkadoklaa
