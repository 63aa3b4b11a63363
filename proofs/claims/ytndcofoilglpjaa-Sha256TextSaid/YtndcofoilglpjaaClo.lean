/- Sha256Clone: the walk. No condition. -/
import Derived.Test.YtndcofoilglpjaaLen
namespace Go.Proofs.Ytndcofoilglpjaa
set_option linter.unusedVariables false
set_option linter.unusedSimpArgs false
open Go.RowKit
attribute [local go_sem ↓] Go.wp_at_zero Go.wp_at_succ

theorem Rd.lenAt {w : World} {B : Nat} {A : Option Addr} {n c : Nat} {l : List UInt8} (h : Rd w B (.slice A n c) l) : l.length = n := by
  obtain ⟨_, _, hv, _⟩ := h.form
  injection hv with _ hn _; exact hn.symm

set_option maxHeartbeats 4000000 in
theorem clone_walk (a : List UInt8) (Aa : Option Addr) (ca : Nat) (b : List UInt8) (Ab : Option Addr) (cb : Nat) (c : List UInt8) (Ac : Option Addr) (cc : Nat) (w : World)
    (ha : Arg w w.heap.size Aa a.length ca 1 (a.flatMap u8C)) (hb : Arg w w.heap.size Ab b.length cb 1 (b.flatMap u8C)) (hc : Arg w w.heap.size Ac c.length cc 1 (c.flatMap u8C)) :
    Calls Try.prog 7 #[.slice Aa a.length ca, .slice Ab b.length cb, .slice Ac c.length cc] w fun e w' => e = .returned (.bool true) ∧ Below w.heap.size w w' := by
  have HA := Lib.hid (arg_rd ha)
  have HB := Lib.hid (arg_rd hb)
  have HC := Lib.hid (arg_rd hc)
  clear ha hb hc
  go_enter Try.func7, Try.ntmps7
  go_wp2_with fail
  refine (cut_any a _ Aa _ ca w HA.out).mono ?_
  rintro e w1 ⟨rfl, hra, rfl⟩
  have hla := cut_len a
  obtain ⟨a', ha'⟩ : ∃ a', a' = a.take 500 := ⟨_, rfl⟩
  rw [← ha'] at hra hla ⊢
  obtain ⟨Na, hNa⟩ : ∃ N, N = a'.length := ⟨_, rfl⟩
  rw [← hNa] at hra ⊢
  have HLA := Lib.hid hla
  have HNA := Lib.hid hNa
  have HRA := Lib.hid hra
  clear hra hla ha' hNa
  go_wp2_with fail
  refine (cut_any b _ Ab _ cb w HB.out).mono ?_
  rintro e w1 ⟨rfl, hra, rfl⟩
  have hla := cut_len b
  obtain ⟨b', ha'⟩ : ∃ a', a' = b.take 500 := ⟨_, rfl⟩
  rw [← ha'] at hra hla ⊢
  obtain ⟨Nb, hNa⟩ : ∃ N, N = b'.length := ⟨_, rfl⟩
  rw [← hNa] at hra ⊢
  have HLB := Lib.hid hla
  have HNB := Lib.hid hNa
  have HRB := Lib.hid hra
  clear hra hla ha' hNa
  go_wp2_with fail
  refine (cut_any c _ Ac _ cc w HC.out).mono ?_
  rintro e w1 ⟨rfl, hra, rfl⟩
  have hla := cut_len c
  obtain ⟨c', ha'⟩ : ∃ a', a' = c.take 500 := ⟨_, rfl⟩
  rw [← ha'] at hra hla ⊢
  obtain ⟨Nc, hNa⟩ : ∃ N, N = c'.length := ⟨_, rfl⟩
  rw [← hNa] at hra ⊢
  have HLC := Lib.hid hla
  have HNC := Lib.hid hNa
  have HRC := Lib.hid hra
  clear hra hla ha' hNa HA HB HC
  go_wp2_with fail
  refine (hnew_any _).mono ?_
  rintro e w1 ⟨g, rfl, hg, hh, hf1⟩
  have HG := Lib.hid hg
  have HH1 := Lib.hid ((hh 0).n)
  have HB1 := Lib.hid (Fr0.below hf1)
  have HRA1 := Lib.hid (HRA.out.fr0 hf1)
  have HRB1 := Lib.hid (HRB.out.fr0 hf1)
  have HRC1 := Lib.hid (HRC.out.fr0 hf1)
  clear hg hh hf1 HRA HRB HRC
  go_wp2_with fail
  refine (write_any g _ [] a' _ _ HH1.out HRA1.out (by have := HLA.out; omega) (by simp)).mono ?_
  rintro e w2 ⟨rfl, hh, hf⟩
  rw [List.nil_append] at hh
  have HH2 := Lib.hid hh.n
  have HRA2 := Lib.hid (HRA1.out.fr1 hf HG.out)
  have HRB2 := Lib.hid (HRB1.out.fr1 hf HG.out)
  have HRC2 := Lib.hid (HRC1.out.fr1 hf HG.out)
  have HB2 := Lib.hid (HB1.out.trans (hf.belowB5 HB1.out.size (fun k hk e => by have := HG.out; omega)))
  clear hh hf HRA1 HRB1 HRC1 HH1 HB1
  go_wp2_with fail
  refine (hclone_any g _ _ _ HH2.out).mono ?_
  rintro e w3 ⟨g', rfl, hg', hk, hf⟩
  have HG' := Lib.hid (show w.heap.size ≤ g' ∧ g' ≠ g from ⟨Nat.le_trans HB2.out.size hg', by have := HH2.out.lt; omega⟩)
  have HH3 := Lib.hid (HH2.out.fr0 hf)
  have HK3 := Lib.hid hk.n
  have HRA3 := Lib.hid (HRA2.out.fr0 hf)
  have HRB3 := Lib.hid (HRB2.out.fr0 hf)
  have HRC3 := Lib.hid (HRC2.out.fr0 hf)
  have HB3 := Lib.hid (HB2.out.trans (hf.belowB5 HB2.out.size (fun k hk h => h)))
  clear hg' hk hf HRA2 HRB2 HRC2 HH2 HB2
  go_wp2_with fail
  refine (write_any g _ a' b' _ _ HH3.out HRB3.out (by have := HLB.out; omega) (by have := HLA.out; omega)).mono ?_
  rintro e w4 ⟨rfl, hh, hf⟩
  have HH4 := Lib.hid hh.n
  have HK4 := Lib.hid (HK3.out.fr1 HH3.out hf HG'.out.2)
  have HRA4 := Lib.hid (HRA3.out.fr1 hf HG.out)
  have HRB4 := Lib.hid (HRB3.out.fr1 hf HG.out)
  have HRC4 := Lib.hid (HRC3.out.fr1 hf HG.out)
  have HB4 := Lib.hid (HB3.out.trans (hf.belowB5 HB3.out.size (fun k hk e => by have := HG.out; omega)))
  clear hh hf HRA3 HRB3 HRC3 HH3 HB3 HK3
  go_wp2_with fail
  refine (write_any g' _ a' c' _ _ HK4.out HRC4.out (by have := HLC.out; omega) (by have := HLA.out; omega)).mono ?_
  rintro e w5 ⟨rfl, hh, hf⟩
  have HK5 := Lib.hid hh.n
  have HH5 := Lib.hid (HH4.out.fr1 HK4.out hf (fun h => HG'.out.2 h.symm))
  have HRA5 := Lib.hid (HRA4.out.fr1 hf HG'.out.1)
  have HRB5 := Lib.hid (HRB4.out.fr1 hf HG'.out.1)
  have HRC5 := Lib.hid (HRC4.out.fr1 hf HG'.out.1)
  have HB5 := Lib.hid (HB4.out.trans (hf.belowB5 HB4.out.size (fun k hk e => by have := HG'.out.1; omega)))
  clear hh hf HRA4 HRB4 HRC4 HH4 HB4 HK4
  go_wp2_with fail
  refine (known_any _).mono ?_
  rintro e w6 ⟨rfl, hf⟩
  have HH6 := Lib.hid (HH5.out.fr0 hf)
  have HK6 := Lib.hid (HK5.out.fr0 hf)
  have HRA6 := Lib.hid (HRA5.out.fr0 hf)
  have HRB6 := Lib.hid (HRB5.out.fr0 hf)
  have HRC6 := Lib.hid (HRC5.out.fr0 hf)
  have HB6 := Lib.hid (HB5.out.trans (hf.belowB5 HB5.out.size (fun k hk h => h)))
  clear hf HRA5 HRB5 HRC5 HH5 HB5 HK5
  have HAB := Lib.hid (show (a' ++ b').length ≤ 1000 ∧ (a' ++ c').length ≤ 1000 by have := HLA.out; have := HLB.out; have := HLC.out; simp only [List.length_append]; omega)
  go_wp2_with fail
  refine (hsum_any g _ _ HH6.out (by have := HAB.out.1; omega)).mono ?_
  rintro e w7 ⟨rfl, hf⟩
  have HK7 := Lib.hid (HK6.out.fr0 hf)
  have HRA7 := Lib.hid (HRA6.out.fr0 hf)
  have HRB7 := Lib.hid (HRB6.out.fr0 hf)
  have HRC7 := Lib.hid (HRC6.out.fr0 hf)
  have HB7 := Lib.hid (HB6.out.trans (hf.belowB5 HB6.out.size (fun k hk h => h)))
  clear hf HRA6 HRB6 HRC6 HH6 HB6 HK6
  obtain ⟨A1, c1, w8, hrun1, hown1, hG1, hge1, -⟩ := app_by (w7.alloc (.cells #[] 5)) (own_bs0 w7) (HRA7.out.alloc (.cells #[] 5)) (by have := HLA.out; simp; omega) (by simp)
  have hF1 : Fr0 w7 w8 := ((Fr.refl _ w7).alloc _).then_ hG1 (fun i hi hk => by have := hge1 i hk; omega)
  obtain ⟨A2, c2, w9, hrun2, hown2, hG2, hge2, -⟩ := app_by w8 hown1 (HRB7.out.fr0 hF1) (by have := HAB.out.1; simp at this ⊢; omega) hF1.size
  have hF2 : Fr0 w7 w9 := hF1.then_ hG2 (fun i hi hk => by have := hge2 i hk; omega)
  rw [List.nil_append] at hrun1 hrun2 hown2
  rw [← HNA.out] at hrun1 hrun2
  obtain ⟨Nab, hNab⟩ : ∃ N, N = (a' ++ b').length := ⟨_, rfl⟩
  rw [← hNab] at hrun2
  have HRS := Lib.hid (show Rd w9 w9.heap.size (.slice A2 Nab c2) (a' ++ b') from by rw [hNab]; exact Sl.rd (Sl.of_own hown2))
  have HF2 := Lib.hid hF2
  have heq1 := fun w => run_a32_same w (sumB (a' ++ b')) (sumB_length _)
  clear hown1 hG1 hge1 hF1 hown2 hG2 hge2 hF2 hNab
  go_wp2_with fail
  refine (rsum_any (a' ++ b') _ _ _ HRS.out (by have := HAB.out.1; omega)).mono ?_
  rintro e w10 ⟨rfl, hf⟩
  have hf' := HF2.out.trans hf
  have HKx := Lib.hid (HK7.out.fr0 hf')
  have HRAx := Lib.hid (HRA7.out.fr0 hf')
  have HRCx := Lib.hid (HRC7.out.fr0 hf')
  have HBx := Lib.hid (HB7.out.trans (hf'.belowB5 HB7.out.size (fun k hk h => h)))
  clear hf hf' HRA7 HRB7 HRC7 HB7 HK7 HF2 HRS hrun1 hrun2
  go_wp2_with fail
  clear heq1
  refine (hsum_any g' _ _ HKx.out (by have := HAB.out.2; omega)).mono ?_
  rintro e w11 ⟨rfl, hf⟩
  have HK7 := Lib.hid (HKx.out.fr0 hf)
  have HRA7 := Lib.hid (HRAx.out.fr0 hf)
  have HRC7 := Lib.hid (HRCx.out.fr0 hf)
  have HB7 := Lib.hid (HBx.out.trans (hf.belowB5 HBx.out.size (fun k hk h => h)))
  clear hf HRAx HRCx HBx HKx
  obtain ⟨A1, c1, w12, hrun1, hown1, hG1, hge1, -⟩ := app_by (w11.alloc (.cells #[] 5)) (own_bs0 w11) (HRA7.out.alloc (.cells #[] 5)) (by have := HLA.out; simp; omega) (by simp)
  have hF1 : Fr0 w11 w12 := ((Fr.refl _ w11).alloc _).then_ hG1 (fun i hi hk => by have := hge1 i hk; omega)
  obtain ⟨A2, c2, w13, hrun2, hown2, hG2, hge2, -⟩ := app_by w12 hown1 (HRC7.out.fr0 hF1) (by have := HAB.out.2; simp at this ⊢; omega) hF1.size
  have hF2 : Fr0 w11 w13 := hF1.then_ hG2 (fun i hi hk => by have := hge2 i hk; omega)
  rw [List.nil_append] at hrun1 hrun2 hown2
  rw [← HNA.out] at hrun1 hrun2
  obtain ⟨Nac, hNac⟩ : ∃ N, N = (a' ++ c').length := ⟨_, rfl⟩
  rw [← hNac] at hrun2
  have HNAC := Lib.hid hNac
  have HRS := Lib.hid (show Rd w13 w13.heap.size (.slice A2 Nac c2) (a' ++ c') from by rw [hNac]; exact Sl.rd (Sl.of_own hown2))
  have HF2 := Lib.hid hF2
  have heq1 := fun w => run_a32_same w (sumB (a' ++ c')) (sumB_length _)
  clear hown1 hG1 hge1 hF1 hown2 hG2 hge2 hF2 hNac
  go_wp2_with fail
  refine (rsum_any (a' ++ c') _ _ _ HRS.out (by have := HAB.out.2; omega)).mono ?_
  rintro e w14 ⟨rfl, hf⟩
  have hf' := HF2.out.trans hf
  have HKx := Lib.hid (HK7.out.fr0 hf')
  have HBx := Lib.hid (HB7.out.trans (hf'.belowB5 HB7.out.size (fun k hk h => h)))
  clear hf hf' HRA7 HRC7 HB7 HK7 HF2 HRS hrun1 hrun2
  go_wp2_with fail
  refine (hlen_any g' _ _ _ HKx.out).mono ?_
  rintro e w15 ⟨rfl, rfl⟩
  have hlen : IntKind.i64.wrap ((Na : Int) + (Nc : Int)) = (Nac : Int) := by
    have h1 := HNA.out; have h2 := HNC.out; have h3 := HNAC.out; have h4 := HLA.out; have h5 := HLC.out
    rw [List.length_append] at h3
    rw [IntWalk.i64_in _ (by omega)]; omega
  rw [← HNAC.out]
  go_wp2_with fail
  go_ret
  exact ⟨rfl, HBx.out⟩
end Go.Proofs.Ytndcofoilglpjaa
