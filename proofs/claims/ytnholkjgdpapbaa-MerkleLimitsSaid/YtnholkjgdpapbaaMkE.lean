/- Chapter 06: climb, From, Verify, Path. No condition beyond the lengths that are named. -/
import Derived.Test.YtnholkjgdpapbaaMkD
import Derived.BigRegion
import Derived.Deep.CutRange
namespace Go.Proofs.Ytnholkjgdpapbaa
set_option linter.unusedVariables false
set_option linter.unusedSimpArgs false
set_option maxRecDepth 10000
open Go.RowKit
attribute [local go_sem ↓] Go.wp_at_zero Go.wp_at_succ

/-- The nodes on the way of a leaf. -/
abbrev atY (x : Nd) (i : Nat) (p : List Nd) (k : Nat) : Nd := Mk.atN jn x i p k
abbrev pairY (x : Nd) (i : Nat) (p : List Nd) (k : Nat) : Nd × Nd := Mk.pairN jn x i p k

set_option maxHeartbeats 1000000 in
theorem climb_by (fn : FuncId) (caps : Array Value) (hcf : ∀ (args : Array Value) (w : World), (callFunc fn args).run Try.prog w = .ok (.enter fn args) w) (x : Nd) (i : Nat) (p : List Nd) (hi : i < 2048) (hp : p.length ≤ 10)
    (S : Nat → Prop) (I : Nat → World → Prop) (W0 : Nat) (hI : ∀ k w w', Fr (fun b => W0 ≤ b) w w' → I k w → I k w')
    (hc : ∀ k w, k < p.length → I k w → Calls Try.prog fn (#[.int .i64 ((k : Int) + 1), (eB 16).v (pairY x i p k).1, (eB 16).v (pairY x i p k).2] ++ caps) w fun e w' => (∃ v, e = .returned v) ∧ I (k + 1) w' ∧ Fr S w w')
    (B : Nat) (A : Option Addr) (L c : Nat) (w : World) (hs : (eB 16).Rds w B (.slice A L c) p) (hS : ∀ k, k < B → ¬ S k) (hS2 : ∀ k, S k → k < W0) (hW : W0 ≤ w.heap.size) (h0 : I 0 w) :
    Calls Try.prog 37 #[(eB 16).v x, .int .i64 (i : Int), .slice A L c, .func (Fn.func fn) #[] caps] w fun e w' => e = .returned ((eB 16).v (atY x i p L)) ∧ I L w' ∧ Fr S w w' := by
  obtain ⟨q1, q2⟩ := hs.cap
  have hlen := hs.len
  obtain ⟨wB, HB⟩ := nm ((eB 16).new 27 ((eB 16).new 27 w x) z16N)
  have hF : Fr0 w wB := by rw [HB.out]; exact ((Fr.refl (fun _ => False) w).newE _ _ _).newE _ _ _
  have H := Lib.hid (And.intro hs (And.intro hS (And.intro hS2 (And.intro hI (And.intro hW hc)))))
  have H1 := Lib.hid (And.intro hF (hI _ _ _ hF.of0 h0))
  have h2 : (eB 16).at_ wB w.heap.size 0 = some x := by rw [HB.out]; simp
  have h3 : okA wB w.heap.size 0 16 = true := by rw [HB.out]; simp
  have h4 : okA wB (w.heap.size + 1) 0 16 = true := by rw [HB.out]; simp
  have h5 : wB.heap.size = w.heap.size + 2 := by rw [HB.out]; simp
  have H2 := Lib.hid (And.intro h2 (And.intro h3 (And.intro h4 h5)))
  have HL := Lib.hid hlen
  unfold maxLen at q2
  clear hs hS hS2 hI hc hW hF h0 h2 h3 h4 h5 hlen
  go_enter Try.func37, Try.ntmps37
  go_wp2_with fail
  rw [← HB.out]
  clear HB
  go_loopw [9, 10, 11, 12, 15] (fun _ _ _ _ v wr => ∃ k : Nat, v = .int .i64 (k : Nat) ∧ k ≤ L ∧ (eB 16).at_ wr w.heap.size 0 = some (atY x i p k) ∧ okA wr w.heap.size 0 16 = true ∧ okA wr (w.heap.size + 1) 0 16 = true ∧ RowKit.Hid (I k wr) ∧ RowKit.Hid (Fr S w wr)) (fun _ _ _ _ v _ => 20 - (intOf v).toNat)
  case atStart => exact ⟨0, rfl, by omega, H2.out.1, H2.out.2.1, H2.out.2.2.1, Lib.hid H1.out.2, Lib.hid H1.out.1.of0⟩
  case round =>
    obtain ⟨k, rfl, hk, ha, ho1, ho2, HI, HF⟩ := hrel
    by_cases hlt : k < L
    · have z0 : (k : Int) < (L : Int) := by omega
      obtain ⟨b, off, rfl, hbB, hbs, hx⟩ := H.out.1.atq (by have := HL.out; omega)
      obtain ⟨y, hy⟩ : ∃ y, p[k]? = some y := ⟨_, List.getElem?_eq_getElem (by have := HL.out; omega)⟩
      have hat := ((eB 16).at_frS HF.out _ _ hbs (H.out.2.1 _ hbB)).trans (hx k y hy)
      obtain ⟨a, HA⟩ := nm (atY x i p k)
      rw [← HA.out] at ha
      clear hx
      have hblt : b < wr.heap.size := (eB 16).at_lt hat
      have hglt : w.heap.size < wr.heap.size := (eB 16).at_lt ha
      have hg1 : w.heap.size < wr.heap.size + 1 := by omega
      have hg2 : w.heap.size < wr.heap.size + 1 + 1 := by omega
      have hg3 : w.heap.size < wr.heap.size + 1 + 1 + 1 := by omega
      have hshr := shr_nat i k (by have := HL.out; omega)
      have hand := bits_and1 (n := i >>> k) (by have := Nat.shiftRight_le i k; omega)
      obtain ⟨j, HJ⟩ := nm (i >>> k)
      rw [← HJ.out] at hshr hand
      have HY := Lib.hid hy
      clear hy
      go_wp2_with fail
      go_cut [11, 12] from 20 to 21 (fun v1 v2 wx => ∃ g h, v1 = .pointer (some ⟨g, 0, none⟩) ∧ v2 = .pointer (some ⟨h, 0, none⟩) ∧ g ≠ h ∧ wr.heap.size < g ∧ wr.heap.size < h ∧ (eB 16).at_ wx g 0 = some a ∧ (eB 16).at_ wx h 0 = some y ∧ okA wx g 0 16 = true ∧ okA wx h 0 16 = true ∧ (eB 16).at_ wx wr.heap.size 0 = some y ∧ Fr0 wr wx)
      case first =>
        go_region
        all_goals
          go_wp2_with fail
          go_meet
          first
          | exact ⟨wr.heap.size + 1, wr.heap.size + 1 + 1, rfl, rfl, by omega, by omega, by omega, by simp [Enc.at_put], by simp [Enc.at_put, Enc.okA_put], by simp [Enc.okA_put], by simp [Enc.okA_put], by simp, ((((((Fr.refl (fun _ => False) wr).newE _ _ _).drew.newE _ _ _).newE _ _ _).fin _ (by omega) _ _).fin _ (by omega) _ _)⟩
          | exact ⟨wr.heap.size + 1 + 1, wr.heap.size + 1, rfl, rfl, by omega, by omega, by omega, by simp, by simp [Enc.at_put], by simp [Enc.okA_put], by simp [Enc.okA_put], by simp, (((((Fr.refl (fun _ => False) wr).newE _ _ _).drew.newE _ _ _).newE _ _ _).fin _ (by omega) _ _)⟩
      case rest =>
        obtain ⟨g, h, rfl, rfl, hgh, hg4, hh4, a1, a2, o1, o2, a3, hf⟩ := hcut
        have ha' := ((eB 16).at_fr hf _ _ hglt).trans ha
        clear hg1 hg2 hg3
        have HSZ := Lib.hid (show w.heap.size + 1 < wr.heap.size by have := ho2; unfold okA at this; split at this; · rename_i hh; exact heap_lt hh
                                                                    · cases this)
        rcases Nat.mod_two_eq_zero_or_one j with hb | hb
        · rw [hb] at hand
          have hbit : Mk.bit i k = false := by unfold Mk.bit; rw [← HJ.out, hb]; rfl
          have hpair : pairY x i p k = (a, y) := by unfold pairY Mk.pairN; rw [hbit, if_neg (by decide), HA.out]; simp [List.getD, HY.out]
          obtain ⟨wv, HV⟩ := nm wc
          have HB1 := Lib.hid (show (eB 16).at_ wv g 0 = some (pairY x i p k).1 by rw [HV.out, hpair]; exact a1)
          have HB2 := Lib.hid (show (eB 16).at_ wv h 0 = some (pairY x i p k).2 by rw [HV.out, hpair]; exact a2)
          have HFV := Lib.hid (show Fr0 wr wv by rw [HV.out]; exact hf)
          rw [← HV.out]
          clear hpair a1 a2 o1 o2 a3 hf ha' HV
          have b1 := HB1.out
          have b2 := HB2.out
          go_wp2_with fail
          refine (H.out.2.2.2.2.2 k wv (by have := HL.out; omega) (H.out.2.2.2.1 _ _ _ HFV.out.of0 HI.out)).mono ?_
          rintro e w4 ⟨⟨v, rfl⟩, hi4, hf4⟩
          have c1 := ((eB 16).at_frS hf4 g 0 ((eB 16).at_lt HB1.out) (fun hs => by have := H.out.2.2.1 _ hs; have := H.out.2.2.2.2.1; omega)).trans HB1.out
          have c2 := ((eB 16).at_frS hf4 h 0 ((eB 16).at_lt HB2.out) (fun hs => by have := H.out.2.2.1 _ hs; have := H.out.2.2.2.2.1; omega)).trans HB2.out
          have HI4 := Lib.hid hi4
          have hs4 := hf4.size
          have o4 : okA w4 w.heap.size 0 16 = true := by
            rw [okA_frS hf4 _ _ _ (by have := HFV.out.size; omega) (fun hs => by have := H.out.2.2.1 _ hs; have := H.out.2.2.2.2.1; omega), okA_fr HFV.out _ _ _ hglt]; exact ho1
          have o4' : okA w4 (w.heap.size + 1) 0 16 = true := by
            rw [okA_frS hf4 _ _ _ (by have := HFV.out.size; have := HSZ.out; omega) (fun hs => by have := H.out.2.2.1 _ hs; have := H.out.2.2.2.2.1; omega), okA_fr HFV.out _ _ _ HSZ.out]; exact ho2
          have HS4 := Lib.hid (show w.heap.size + 1 < w4.heap.size by have := HFV.out.size; have := HSZ.out; omega)
          have HF4 := Lib.hid (show Fr S w w4 from HF.out.then_ (HFV.out.of0.then_ hf4 (fun _ _ h => h)) (fun _ _ h => h))
          have HO4 := Lib.hid (And.intro o4 o4')
          clear hi4 hs4 hf4 o4 o4' b1 b2
          go_wp2_with fail
          refine (join_any ((k : Int) + 1) _ _ w4).mono ?_
          rintro e w5 ⟨rfl, hf5⟩
          have o5 : okA w5 w.heap.size 0 16 = true := by rw [okA_fr hf5 _ _ _ (by have := HS4.out; omega)]; exact HO4.out.1
          have o5' : okA w5 (w.heap.size + 1) 0 16 = true := by rw [okA_fr hf5 _ _ _ HS4.out]; exact HO4.out.2
          have HJO := Lib.hid (show atY x i p (k + 1) = joinY ((k : Int) + 1) (pairY x i p k).1 (pairY x i p k).2 by rw [← jn_succ]; exact Mk.atN_pair jn x i p k)
          have HF5 := Lib.hid hf5
          have HO5 := Lib.hid (And.intro o5 o5')
          clear c1 c2 hf5 o5'
          go_wp2_with fail
          go_roundw
          case rel =>
            refine ⟨k + 1, by go_num, by omega, by rw [HJO.out]; exact (eB 16).at_put HO5.out.1, by rw [(eB 16).okA_put HO5.out.1]; exact HO5.out.1, by rw [(eB 16).okA_put HO5.out.1]; exact HO5.out.2, Lib.hid ?_, Lib.hid ?_⟩
            · exact H.out.2.2.2.1 _ _ _ (((HF5.out.of0).putE (S := fun b => W0 ≤ b) (eB 16) (fun _ => H.out.2.2.2.2.1) 0 _)) HI4.out
            · exact (HF4.out.then_ HF5.out (fun _ _ h => h.elim)).fin (eB 16) (Nat.le_refl _) 0 _
          case measure => have := HL.out; simp [intOf]; omega
        · rw [hb] at hand
          have hbit : Mk.bit i k = true := by unfold Mk.bit; rw [← HJ.out, hb]; rfl
          have hpair : pairY x i p k = (y, a) := by unfold pairY Mk.pairN; rw [hbit, if_pos rfl, HA.out]; simp [List.getD, HY.out]
          have hhg : h ≠ g := Ne.symm hgh
          have n1 : w.heap.size ≠ g := by omega
          have n2 : w.heap.size ≠ h := by omega
          have n3 : wr.heap.size ≠ g := by omega
          have n4 : wr.heap.size ≠ h := by omega
          go_wp2_with fail
          go_region
          obtain ⟨wv, HV⟩ := nm ((eB 16).put ((eB 16).put wc.drew g 0 y) h 0 a)
          have HB1 := Lib.hid (show (eB 16).at_ wv g 0 = some (pairY x i p k).1 by rw [HV.out, hpair, (eB 16).at_putFar _ _ hgh]; exact (eB 16).at_put (by simpa using o1))
          have HB2 := Lib.hid (show (eB 16).at_ wv h 0 = some (pairY x i p k).2 by rw [HV.out, hpair]; exact (eB 16).at_put (by rw [(eB 16).okA_putFar _ _ hhg]; simpa using o2))
          have HFV := Lib.hid (show Fr0 wr wv by rw [HV.out]; exact (hf.drew.fin (eB 16) (by omega) 0 _).fin (eB 16) (by omega) 0 _)
          rw [← HV.out]
          clear hpair a1 a2 o1 o2 a3 hf ha' HV
          have b1 := HB1.out
          have b2 := HB2.out
          go_wp2_with fail
          refine (H.out.2.2.2.2.2 k wv (by have := HL.out; omega) (H.out.2.2.2.1 _ _ _ HFV.out.of0 HI.out)).mono ?_
          rintro e w4 ⟨⟨v, rfl⟩, hi4, hf4⟩
          have c1 := ((eB 16).at_frS hf4 g 0 ((eB 16).at_lt HB1.out) (fun hs => by have := H.out.2.2.1 _ hs; have := H.out.2.2.2.2.1; omega)).trans HB1.out
          have c2 := ((eB 16).at_frS hf4 h 0 ((eB 16).at_lt HB2.out) (fun hs => by have := H.out.2.2.1 _ hs; have := H.out.2.2.2.2.1; omega)).trans HB2.out
          have HI4 := Lib.hid hi4
          have hs4 := hf4.size
          have o4 : okA w4 w.heap.size 0 16 = true := by
            rw [okA_frS hf4 _ _ _ (by have := HFV.out.size; omega) (fun hs => by have := H.out.2.2.1 _ hs; have := H.out.2.2.2.2.1; omega), okA_fr HFV.out _ _ _ hglt]; exact ho1
          have o4' : okA w4 (w.heap.size + 1) 0 16 = true := by
            rw [okA_frS hf4 _ _ _ (by have := HFV.out.size; have := HSZ.out; omega) (fun hs => by have := H.out.2.2.1 _ hs; have := H.out.2.2.2.2.1; omega), okA_fr HFV.out _ _ _ HSZ.out]; exact ho2
          have HS4 := Lib.hid (show w.heap.size + 1 < w4.heap.size by have := HFV.out.size; have := HSZ.out; omega)
          have HF4 := Lib.hid (show Fr S w w4 from HF.out.then_ (HFV.out.of0.then_ hf4 (fun _ _ h => h)) (fun _ _ h => h))
          have HO4 := Lib.hid (And.intro o4 o4')
          clear hi4 hs4 hf4 o4 o4' b1 b2
          go_wp2_with fail
          refine (join_any ((k : Int) + 1) _ _ w4).mono ?_
          rintro e w5 ⟨rfl, hf5⟩
          have o5 : okA w5 w.heap.size 0 16 = true := by rw [okA_fr hf5 _ _ _ (by have := HS4.out; omega)]; exact HO4.out.1
          have o5' : okA w5 (w.heap.size + 1) 0 16 = true := by rw [okA_fr hf5 _ _ _ HS4.out]; exact HO4.out.2
          have HJO := Lib.hid (show atY x i p (k + 1) = joinY ((k : Int) + 1) (pairY x i p k).1 (pairY x i p k).2 by rw [← jn_succ]; exact Mk.atN_pair jn x i p k)
          have HF5 := Lib.hid hf5
          have HO5 := Lib.hid (And.intro o5 o5')
          clear c1 c2 hf5 o5'
          go_wp2_with fail
          go_roundw
          case rel =>
            refine ⟨k + 1, by go_num, by omega, by rw [HJO.out]; exact (eB 16).at_put HO5.out.1, by rw [(eB 16).okA_put HO5.out.1]; exact HO5.out.1, by rw [(eB 16).okA_put HO5.out.1]; exact HO5.out.2, Lib.hid ?_, Lib.hid ?_⟩
            · exact H.out.2.2.2.1 _ _ _ (((HF5.out.of0).putE (S := fun b => W0 ≤ b) (eB 16) (fun _ => H.out.2.2.2.2.1) 0 _)) HI4.out
            · exact (HF4.out.then_ HF5.out (fun _ _ h => h.elim)).fin (eB 16) (Nat.le_refl _) 0 _
          case measure => have := HL.out; simp [intOf]; omega
    · obtain rfl : L = k := by omega
      have HI' := HI.out
      go_wp2_with fail
      exact fin_E (eB 16) rfl Try.underlying27 rfl einfo_bulletin_merkle_Node (by rfl) rfl ho2 ⟨rfl, H.out.2.2.2.1 _ _ _ ((Fr.refl (fun b => W0 ≤ b) _).putE (eB 16) (fun _ => by have := H.out.2.2.2.2.1; omega) 0 _) HI.out, HF.out.fin (eB 16) (by omega) 0 _⟩

theorem cf_from (args : Array Value) (w : World) : (callFunc 45 args).run Try.prog w = .ok (.enter 45 args) w := by kernel_rfl
theorem from1_any (k : Int) (a b : Nd) (w : World) : Calls Try.prog 45 #[.int .i64 k, (eB 16).v a, (eB 16).v b] w fun e w' => (∃ v, e = .returned v) ∧ Fr0 w w' := by
  go_enter Try.func45, Try.ntmps45
  go_wp2_with fail
  go_end0
  exact ⟨⟨_, rfl⟩, ((Fr.refl _ _).newE _ _ _).newE _ _ _⟩

/-- What From answers. -/
def fromE (L : Nat) (i : Int) : Int := if 10 < L then 9 else if 0 ≤ i ∧ i < (2 ^ L : Nat) then 0 else 8
def fromY (x : Nd) (i : Int) (p : List Nd) : Nd := if fromE p.length i = 0 then atY x i.toNat p p.length else z16N

set_option maxHeartbeats 1000000 in
theorem from_any (x : Nd) (i : Int) (p : List Nd) (B : Nat) (A : Option Addr) (L c : Nat) (w : World) (hs : (eB 16).Rds w B (.slice A L c) p) (hB : B ≤ w.heap.size) :
    Calls Try.prog 25 #[(eB 16).v x, .int .i64 i, .slice A L c] w fun e w' => e = .returned (.tuple #[(eB 16).v (fromY x i p), .int .i64 (fromE L i)]) ∧ Fr0 w w' := by
  have hlen := hs.len
  obtain ⟨q1, q2⟩ := hs.cap
  have hY : fromY x i p = if fromE L i = 0 then atY x i.toNat p L else z16N := by unfold fromY; rw [hlen]
  rw [hY]
  clear hY
  unfold fromE
  unfold maxLen at q2
  by_cases h1 : 10 < L
  · rw [if_pos h1, if_neg (by omega)]
    have z1 : (10 : Int) < (L : Int) := by omega
    clear hs hlen
    go_enter Try.func25, Try.ntmps25
    go_wp2_with fail
    exact bodyPost_E2 (eB 16) (x := z16N) rfl Try.underlying27 rfl einfo_bulletin_merkle_Node (by rfl) (by simp) rfl ⟨rfl, ((Fr.refl _ _).newE _ _ _).newE _ _ _⟩
  · rw [if_neg h1]
    have z1 : ¬ (10 : Int) < (L : Int) := by omega
    have hshl := shl_nat L (by omega)
    have hp : (2 : Nat) ^ L ≤ 2 ^ 10 := Nat.pow_le_pow_right (by omega) (by omega)
    obtain ⟨P, HP⟩ := nm (2 ^ L : Nat)
    rw [← HP.out] at hshl hp ⊢
    have hshl2 : wrap64 (2 ^ L) = (P : Int) := by rw [HP.out]; exact shl_nat64 L (by omega)
    by_cases h2 : 0 ≤ i
    · by_cases h3 : i < (P : Int)
      · rw [show (if 0 ≤ i ∧ i < (P : Int) then (0 : Int) else 8) = 0 from if_pos ⟨h2, h3⟩, if_pos rfl]
        obtain ⟨n, rfl⟩ := Int.eq_ofNat_of_zero_le h2
        rw [Int.toNat_natCast]
        have HS := Lib.hid hs
        have HL := Lib.hid hlen
        obtain ⟨wB, HB⟩ := nm ((eB 16).new 27 ((eB 16).new 27 w x) z16N)
        have h4 : okA wB (w.heap.size + 1) 0 16 = true := by rw [HB.out]; simp
        have h5 : wB.heap.size = w.heap.size + 2 := by rw [HB.out]; simp
        have hF : Fr0 w wB := by rw [HB.out]; exact ((Fr.refl (fun _ => False) w).newE _ _ _).newE _ _ _
        have H := Lib.hid (And.intro h4 (And.intro h5 hF))
        clear hs hlen h4 h5 hF
        go_enter Try.func25, Try.ntmps25
        go_wp2_with fail
        rw [← HB.out]
        clear HB
        refine (climb_by _ #[] cf_from x n p (by omega) (by have := HL.out; omega) (fun _ => False) (fun _ w' => Fr0 wB w') wB.heap.size (fun k w1 w2 hf h => h.then_ hf (fun i hi hk => by omega)) (fun k w1 hk h => (from1_any _ _ _ w1).mono (by rintro e w2 ⟨hv, hf⟩; exact ⟨hv, h.trans hf, hf⟩)) B A L c wB (HS.out.fr0 H.out.2.2) (fun _ _ h => h) (fun _ h => h.elim) (Nat.le_refl _) (Fr.refl _ _)).mono ?_
        rintro e w4 ⟨rfl, hf, -⟩
        have ho : okA w4 (w.heap.size + 1) 0 16 = true := by rw [okA_fr hf _ _ _ (by have := H.out.2.1; omega)]; exact H.out.1
        have HF := Lib.hid (H.out.2.2.trans hf)
        clear hf
        go_wp2_with fail
        exact fin_E2 (eB 16) rfl Try.underlying27 rfl einfo_bulletin_merkle_Node (by rfl) rfl ho ⟨rfl, HF.out.fin _ (by omega) _ _⟩
      · rw [show (if 0 ≤ i ∧ i < (P : Int) then (0 : Int) else 8) = 8 from if_neg (fun h => h3 h.2), if_neg (by omega)]
        clear hs hlen
        go_enter Try.func25, Try.ntmps25
        go_wp2_with fail
        exact bodyPost_E2 (eB 16) (x := z16N) rfl Try.underlying27 rfl einfo_bulletin_merkle_Node (by rfl) (by simp) rfl ⟨rfl, ((Fr.refl _ _).newE _ _ _).newE _ _ _⟩
    · rw [show (if 0 ≤ i ∧ i < (P : Int) then (0 : Int) else 8) = 8 from if_neg (fun h => h2 h.1), if_neg (by omega)]
      clear hs hlen
      go_enter Try.func25, Try.ntmps25
      go_wp2_with fail
      exact bodyPost_E2 (eB 16) (x := z16N) rfl Try.underlying27 rfl einfo_bulletin_merkle_Node (by rfl) (by simp) rfl ⟨rfl, ((Fr.refl _ _).newE _ _ _).newE _ _ _⟩
end Go.Proofs.Ytnholkjgdpapbaa
