/- Sha256Lengths: the walk. No condition. -/
import Derived.Test.YtndcofoilglpjaaLw5A
namespace Go.Proofs.Ytndcofoilglpjaa
set_option linter.unusedVariables false
set_option linter.unusedSimpArgs false
open Go.RowKit
attribute [local go_sem ↓] Go.wp_at_zero Go.wp_at_succ

@[go_sem] theorem run_a32_ne (w : World) (a b : By 32) : (nev 24 (.agg (bs a.1).toArray) (.agg (bs b.1).toArray)).run Try.prog w = .ok (.bool (!decide (a = b))) w := by
  rw [← sames_by]; exact run_neq_flat w 3 a32_kinds (by omega) val__32_uint8 _ _ (by_fits a) (by_fits b)
theorem run_a32_nesame (w : World) (l : List UInt8) (hl : l.length = 32) : (nev 24 (.agg (bs l).toArray) (.agg (bs l).toArray)).run Try.prog w = .ok (.bool false) w := by
  have := run_a32_ne w ⟨l, hl⟩ ⟨l, hl⟩; simpa using this
theorem Fr.belowB5 {S : Nat → Prop} {a b : World} {B : Nat} (h : Fr S a b) (hB : B ≤ a.heap.size) (hS : ∀ k, k < B → ¬ S k) : Below B a b := h.below (fun k hk => ⟨by omega, hS k hk⟩)
theorem HashN.alloc {w : World} {g : Nat} {l : List UInt8} {n : Int} (h : HashN w g l n) (o : Obj) : HashN (w.alloc o) g l n := h.fr ((Fr.refl (fun _ => False) w).alloc o) (fun h => h) (fun _ _ _ h => h.elim)
theorem rep_succ (x : UInt8) (k : Nat) : List.replicate k x ++ [x] = List.replicate (k + 1) x := by rw [List.replicate_succ']

set_option maxHeartbeats 4000000 in
theorem lens_walk (x : UInt8) (w : World) :
    Calls Try.prog 4 #[Proofs.Ytndcofoilglpjaa.u8 x] w fun e w' => e = .returned (.bool true) ∧ Below w.heap.size w w' := by
  go_enter Try.func4, Try.ntmps4
  go_wp2_with fail
  refine (hnew_any _).mono ?_
  rintro e w1 ⟨g, rfl, hg, hh, hf1⟩
  have HH1 := Lib.hid ((hh 0).n)
  have HF1 := Lib.hid hf1
  clear hf1 hh
  go_wp2_with fail
  refine (known_any _).mono ?_
  rintro e w2 ⟨rfl, hf2⟩
  have HH2 := Lib.hid (HH1.out.fr0 hf2)
  have HB2 := Lib.hid (Fr0.below (HF1.out.trans hf2))
  have HG := Lib.hid (show w.heap.size ≤ g ∧ g < w2.heap.size from ⟨hg, HH2.out.lt⟩)
  clear hf2 hg
  go_wp2_with fail
  go_loopw [4, 5] (fun vv iv wr => ∃ k : Nat, k ≤ 201 ∧ iv = .int .i64 k ∧ wr.ownsRow w2.heap.size 5 1 vv (List.replicate k x).length (bs (List.replicate k x)) ∧ HashAt wr g (List.replicate k x) ∧ Below w.heap.size w wr ∧ w2.heap.size ≤ wr.heap.size) (fun _ iv _ => 201 - (intOf iv).toNat)
  case atStart => exact ⟨0, by omega, rfl, own_nil8 _ _, HH2.out, HB2.out, Nat.le_refl _⟩
  case round =>
    obtain ⟨k, hk, rfl, hown, hH, hB, hsz⟩ := hrel
    obtain ⟨A, c, rfl, hc1, hc2⟩ := own_form hown
    by_cases hlt : k ≤ 200
    · have z0 : (k : Int) ≤ 200 := by omega
      obtain ⟨l, hl⟩ : ∃ l, l = List.replicate k x := ⟨_, rfl⟩
      rw [← hl] at hown hH hc1 ⊢
      have hll : l.length = k := by rw [hl]; simp
      have hls : l ++ [x] = List.replicate (k + 1) x := by rw [hl]; exact rep_succ x k
      rw [hll] at hc1 ⊢
      have HL := Lib.hid hl
      have HLL := Lib.hid hll
      have HLS := Lib.hid hls
      have HO := Lib.hid hown
      have HH := Lib.hid hH
      have HB := Lib.hid hB
      have HSZ := Lib.hid hsz
      have hne := fun w => run_a32_nesame w (sumB l) (sumB_length l)
      clear hl hll hls hown hH hB hsz
      have HR := Lib.hid (show Rd wr wr.heap.size (.slice A k c) l from by have := Sl.rd (Sl.of_own HO.out); rwa [HLL.out] at this)
      have HL9 := Lib.hid (show l.length ≤ 1000000000 by have := HLL.out; omega)
      go_wp2_with fail
      refine (ssum_any l _ _ wr HR.out HL9.out).mono ?_
      rintro e w3 ⟨rfl, hf3⟩
      have HF3 := Lib.hid hf3
      clear hf3
      go_wp2_with fail
      refine (rsum_any l _ _ w3 (HR.out.fr0 HF3.out) HL9.out).mono ?_
      rintro e w4 ⟨rfl, hf4⟩
      have HF4 := Lib.hid (HF3.out.trans hf4)
      clear hf4
      go_wp2_with fail
      refine (hsum_any g l w4 (HH.out.fr0 HF4.out) HL9.out).mono ?_
      rintro e w5 ⟨rfl, hf5⟩
      have HF5 := Lib.hid (HF4.out.trans hf5)
      clear hf5
      go_wp2_with fail
      refine (rsum_any l _ _ w5 (HR.out.fr0 HF5.out) HL9.out).mono ?_
      rintro e w6 ⟨rfl, hf6⟩
      have HF6 := Lib.hid (HF5.out.trans hf6)
      clear hf6
      go_wp2_with fail
      have hf7 := HF6.out.alloc (.cells #[Proofs.Ytndcofoilglpjaa.u8 x] 5)
      refine (write_any g _ l [x] _ _ (HH.out.fr0 hf7) (sl_bs1 w6 x) (by simp) HL9.out).mono ?_
      rintro e w8 ⟨rfl, hh, hf8⟩
      have hown7 := own_fr0 HO.out hf7
      have hown8 := own_fr hown7 hf8 (fun i hi e => by have := own_ge _ HO.out i hi; have := HG.out; omega)
      have hB8 := (HB.out.trans (hf7.belowB5 HB.out.size (fun _ _ h => h))).trans (hf8.belowB5 (Nat.le_trans HB.out.size hf7.size) (fun i hi e => by have := HG.out; omega))
      have hs8 : wr.heap.size ≤ w8.heap.size := Nat.le_trans hf7.size hf8.size
      obtain ⟨A2, c2, w9, hrun2, hown2, hG2, hge2, -⟩ := app_by (w8.alloc (.cells #[Proofs.Ytndcofoilglpjaa.u8 x] 5)) (own_fr0 hown8 ((Fr.refl _ _).alloc _)) (sl_bs1 w8 x) (by have := HL9.out; simp only [List.length_singleton]; omega) (by have := HSZ.out; simp; omega)
      have hlt8 := hown8.lt
      have hh9 := (hh.fr0 ((Fr.refl _ _).alloc (.cells #[Proofs.Ytndcofoilglpjaa.u8 x] 5))).fr hG2 (fun e => by have := own_ge _ hown8 _ e; have := HG.out; omega) (fun i hi e => by have := own_ge _ hown8 _ e; have := hown7.lt i e; omega)
      have hB9 := hB8.trans ((((Fr.refl (fun k => (Value.slice A l.length c).ownBlock = some k) w8).alloc (.cells #[Proofs.Ytndcofoilglpjaa.u8 x] 5)).trans hG2).belowB5 hB8.size (fun i hi e => by have := own_ge _ hown8 _ e; have := HG.out; omega))
      rw [HLL.out] at hrun2
      obtain ⟨M, hM⟩ : ∃ M, M = (l ++ [x]).length := ⟨_, rfl⟩
      rw [← hM] at hrun2 hown2 hh9
      have HM := Lib.hid hM
      have HO9 := Lib.hid hown2
      have HH9 := Lib.hid hh9
      have HB9 := Lib.hid hB9
      have HS9 := Lib.hid (show w2.heap.size ≤ w9.heap.size from Nat.le_trans (Nat.le_trans HSZ.out hs8) (Nat.le_trans (by simp) hG2.size))
      clear hf7 hh hf8 hown7 hown8 hB8 hs8 hown2 hG2 hge2 hlt8 hh9 hB9 hM
      go_wp2_with fail
      clear hrun2 hne
      go_roundw
      case rel =>
        have hM := HM.out
        have hh := HH9.out.n
        have ho := HO9.out
        rw [HLS.out] at ho hh hM
        rw [hM] at hh ho ⊢
        first
        | exact ⟨k + 1, by omega, by go_num, ho, hh, HB9.out, HS9.out⟩
        | ((repeat apply Exists.intro); exact ⟨⟨k + 1, by omega, by go_num, ho, hh, HB9.out, HS9.out⟩, rfl⟩)
      case measure => simp [intOf]; omega
    · have hk2 : k = 201 := by omega
      subst hk2
      have HB := Lib.hid hB
      clear hown hH hB hsz
      go_wp2_with fail
      go_ret
      exact ⟨rfl, HB.out⟩
theorem lens_walk' (n : Int) (w : World) (hw : (Lit.int .u8 n).wf = true) :
    Calls Try.prog 4 #[.int .u8 n] w fun e w' => e = .returned (.bool true) ∧ Below w.heap.size w w' := by
  obtain ⟨b, hb⟩ := u8_of_wf hw
  rw [hb]; exact lens_walk b w
end Go.Proofs.Ytndcofoilglpjaa
