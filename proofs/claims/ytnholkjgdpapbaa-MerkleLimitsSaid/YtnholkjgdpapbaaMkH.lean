/- Chapter 06: the reference's Height, Node, Root, Path. No condition beyond the lengths that are named. -/
import Derived.Test.YtnholkjgdpapbaaMkG
namespace Go.Proofs.Ytnholkjgdpapbaa
set_option linter.unusedVariables false
set_option linter.unusedSimpArgs false
set_option maxRecDepth 10000
open Go.RowKit
attribute [local go_sem ↓] Go.wp_at_zero Go.wp_at_succ

theorem p2_none {n h : Nat} (hlo : ∀ j, j < h → 2 ^ j < n) (hh : n < 2 ^ h) : p2 n = none := by
  unfold p2
  rw [List.find?_eq_none]
  intro j _ he
  have he := beq_iff_eq.1 he
  rcases Nat.lt_or_ge j h with hlt | hge
  · have := hlo j hlt; omega
  · have := Nat.pow_le_pow_right (n := 2) (by omega) hge; omega

/-- What Height answers: the height. -/
def hgtN (n : Nat) : Nat := if chkN n = 0 then (p2 n).getD 0 else 0
theorem hgt_ok {n h : Nat} (h0 : chkN n = 0) (hp : p2 n = some h) : hgtN n = h := by unfold hgtN; rw [if_pos h0, hp]; rfl
theorem hgt_bad {n : Nat} (h0 : ¬ chkN n = 0) : hgtN n = 0 := if_neg h0

set_option maxHeartbeats 1000000 in
theorem rheight_any (n : Nat) (w : World) :
    Calls Try.prog 42 #[.int .i64 (n : Int)] w fun e w' => e = .returned (.tuple #[.int .i64 (hgtN n : Int), .int .i64 (chkN n)]) ∧ w = w' := by
  by_cases h0 : n = 0
  · subst h0
    have hc : chkN 0 = 1 := rfl
    rw [hgt_bad (by rw [hc]; omega), hc]
    go_enter Try.func42, Try.ntmps42
    go_wp2_with fail
    go_ret2
    exact ⟨rfl, rfl⟩
  · have z0 : ¬ (n : Int) = 0 := by omega
    by_cases h1 : 1024 < n
    · have z1 : (1024 : Int) < (n : Int) := by omega
      have hc : chkN n = 9 := by unfold chkN; rw [if_neg h0, if_pos h1]
      rw [hgt_bad (by rw [hc]; omega), hc]
      go_enter Try.func42, Try.ntmps42
      go_wp2_with fail
      go_ret2
      exact ⟨rfl, rfl⟩
    · have z1 : ¬ (1024 : Int) < (n : Int) := by omega
      go_enter Try.func42, Try.ntmps42
      go_wp2_with fail
      go_loopw [4] (fun x wr => ∃ h : Nat, x = .int .i64 (h : Nat) ∧ h ≤ 10 ∧ RowKit.Hid (∀ j, j < h → 2 ^ j < n) ∧ wr = w) (fun x _ => 20 - (intOf x).toNat)
      case atStart => exact ⟨0, rfl, by omega, Lib.hid (fun j hj => by omega), rfl⟩
      case round =>
        obtain ⟨h, rfl, hh, HLO, rfl⟩ := hrel
        have hshl := shl_nat h (by omega)
        have hshl2 := shl_nat64 h (by omega)
        obtain ⟨P, HP⟩ := nm (2 ^ h : Nat)
        have hP : P ≤ 1024 := by
          have : 2 ^ h ≤ 2 ^ 10 := Nat.pow_le_pow_right (by omega) hh
          have := HP.out; omega
        rw [← HP.out] at hshl hshl2
        by_cases hlt : P < n
        · have z2 : (P : Int) < (n : Int) := by omega
          have hh' : h < 10 := by
            rcases Nat.lt_or_ge h 10 with h' | h'
            · exact h'
            · obtain rfl : h = 10 := by omega
              have := HP.out; omega
          go_wp2_with fail
          go_roundw
          case rel => exact ⟨h + 1, by go_num, by omega, Lib.hid (fun j hj => by
              rcases Nat.lt_or_ge j h with h' | h'
              · exact HLO.out j h'
              · obtain rfl : j = h := by omega
                rw [← HP.out]; exact hlt), trivial⟩
          case measure => simp [intOf]; omega
        · have z2 : ¬ (P : Int) < (n : Int) := by omega
          by_cases he : P = n
          · have hp : p2 n = some h := by rw [← he, HP.out]; exact p2_pow hh
            have hc : chkN n = 0 := by unfold chkN; rw [if_neg h0, if_neg h1, hp]; rfl
            have HC := Lib.hid (And.intro hc hp)
            have z3 : (P : Int) = (n : Int) := by omega
            clear hp hc
            go_wp2_with fail
            go_ret2
            rw [hgt_ok HC.out.1 HC.out.2, HC.out.1]
            exact ⟨rfl, rfl⟩
          · have hp : p2 n = none := p2_none HLO.out (by have := HP.out; omega)
            have hc : chkN n = 2 := by unfold chkN; rw [if_neg h0, if_neg h1, hp]; rfl
            have HC := Lib.hid hc
            have z3 : ¬ (P : Int) = (n : Int) := by omega
            clear hp hc
            go_wp2_with fail
            go_ret2
            rw [hgt_bad (by rw [HC.out]; omega), HC.out]
            exact ⟨rfl, rfl⟩

set_option maxHeartbeats 1000000 in
theorem rnode_any (l : List Nd) (B : Nat) (A : Option Addr) (L c : Nat) (hL : L ≤ 2000) : ∀ (n k : Nat) (w : World), n ≤ 10 → (k + 1) * 2 ^ n ≤ L → (eB 16).Rds w B (.slice A L c) l →
    Calls Try.prog 43 #[.slice A L c, .int .i64 (n : Int), .int .i64 (k : Int)] w fun e w' => e = .returned ((eB 16).v (nodeY l n k)) ∧ Fr0 w w'
  | 0, k, w, _, hk, hs => by
    have hkL : k < L := by have h := hk; rw [Nat.pow_zero, Nat.mul_one] at h; omega
    have hlen := hs.len
    obtain ⟨q1, q2⟩ := hs.cap
    obtain ⟨b, off, rfl, _, hbs, hx⟩ := hs.atq (by omega)
    have hat0 := hx k (l.getD k default) (by rw [List.getD, List.getElem?_eq_getElem (by omega)]; rfl)
    have hat : (eB 16).at_ ((eB 16).new 24 w z16N) b (off + k * 16) = some (l.getD k default) := by
      rw [(eB 16).at_newOld _ _ _ hbs]; exact hat0
    have z0 : (k : Int) < (L : Int) := by omega
    show Calls Try.prog 43 #[.slice (some ⟨b, off, none⟩) L c, .int .i64 0, .int .i64 (k : Int)] w fun e w' => e = .returned ((eB 16).v (l.getD k default)) ∧ Fr0 w w'
    obtain ⟨y, HY⟩ := nm (l.getD k default)
    rw [← HY.out] at hat ⊢
    clear hs hx hat0 hlen
    go_enter Try.func43, Try.ntmps43
    go_wp2_with fail
    exact bodyPost_E (eB 16) (x := y) rfl Try.underlying24 rfl einfo_bulletin_bulletinref06_N (by rfl) ((eB 16).at_new _ _) rfl ⟨rfl, (Fr.refl _ _).newE _ _ _⟩
  | n + 1, k, w, hn, hk, hs => by
    have hp : (k + 1) * 2 ^ (n + 1) = (2 * k + 1 + 1) * 2 ^ n := by rw [Nat.pow_succ, Nat.mul_comm (2 ^ n) 2, ← Nat.mul_assoc]; congr 1; omega
    have h1 : (2 * k + 1 + 1) * 2 ^ n ≤ L := by omega
    have h0 : (2 * k + 1) * 2 ^ n ≤ L := Nat.le_trans (Nat.mul_le_mul_right _ (by omega)) h1
    have hk2 : k ≤ 2000 := by
      have : (k + 1) * 1 ≤ (k + 1) * 2 ^ (n + 1) := Nat.mul_le_mul_left _ (Nat.two_pow_pos _)
      omega
    have hw2 := wrap_nat (x := 2 * k) (by omega)
    have hw : IntKind.i64.wrap (2 * (k : Int)) = ((2 * k : Nat) : Int) := by rw [← hw2]; push_cast; rfl
    have hN := Lib.hid (show nodeY l (n + 1) k = joinY ((n : Int) + 1) (nodeY l n (2 * k)) (nodeY l n (2 * k + 1)) by rw [← jn_succ]; rfl)
    have I0 := fun w' (h : Fr0 w w') => rnode_any l B A L c hL n (2 * k) w' (by omega) h0 (hs.fr0 h)
    have I1 := fun w' (h : Fr0 w w') => rnode_any l B A L c hL n (2 * k + 1) w' (by omega) h1 (hs.fr0 h)
    obtain ⟨m, HM⟩ := nm (2 * k)
    rw [← HM.out] at hw I0 I1
    have hm : m ≤ 4000 := by have := HM.out; omega
    have II := Lib.hid (And.intro I0 I1)
    rw [hN.out, ← HM.out]
    clear hp h1 h0 hw2 hs I0 I1
    go_enter Try.func43, Try.ntmps43
    go_wp2_with fail
    refine (II.out.1 _ ((Fr.refl _ w).newE _ _ _)).mono ?_
    rintro e w1 ⟨rfl, hf1⟩
    have HF1 := Lib.hid (((Fr.refl (fun _ => False) w).newE (eB 16) 24 z16N).trans hf1)
    have o1 : okA w1 w.heap.size 0 16 = true := by rw [okA_fr hf1 _ _ _ (by simp)]; simp
    have hz1 : w.heap.size < w1.heap.size := by have := hf1.size; simp at this; omega
    clear hf1
    go_wp2_with fail
    refine (II.out.2 _ HF1.out).mono ?_
    rintro e w2 ⟨rfl, hf2⟩
    have HF2 := Lib.hid (HF1.out.trans hf2)
    have o2 : okA w2 w.heap.size 0 16 = true := by rw [okA_fr hf2 _ _ _ hz1]; exact o1
    have hz2 : w.heap.size < w2.heap.size := Nat.lt_of_lt_of_le hz1 hf2.size
    clear hf2 o1 hz1
    go_wp2_with fail
    refine (rjoin_any ((n : Int) + 1) _ _ _).mono ?_
    rintro e w3 ⟨rfl, hf3⟩
    have HF3 := Lib.hid (HF2.out.trans hf3)
    have o3 : okA w3 w.heap.size 0 16 = true := by rw [okA_fr hf3 _ _ _ hz2]; exact o2
    clear hf3 o2 hz2
    go_wp2_with fail
    exact fin_E (eB 16) rfl Try.underlying24 rfl einfo_bulletin_bulletinref06_N (by rfl) rfl o3 ⟨rfl, HF3.out.fin _ (Nat.le_refl _) _ _⟩

set_option maxHeartbeats 1000000 in
theorem rroot_any (l : List Nd) (B : Nat) (A : Option Addr) (L c : Nat) (w : World) (hs : (eB 16).Rds w B (.slice A L c) l) (hL : L ≤ 2000) :
    Calls Try.prog 21 #[.slice A L c] w fun e w' => e = .returned (.tuple #[(eB 16).v (rootY l), .int .i64 (chkN L)]) ∧ Fr0 w w' := by
  have hlen := hs.len
  have hr : rootY l = if chkN L = 0 then nodeY l ((p2 L).getD 0) 0 else z16N := by unfold rootY; rw [hlen]
  rw [hr]
  clear hr
  by_cases h0 : chkN L = 0
  · obtain ⟨h, hp, hh, hh10⟩ := chk_ok h0
    have HS := Lib.hid (hs.fr0 ((Fr.refl (fun _ => False) w).newE (eB 16) 24 z16N))
    have HC := Lib.hid (And.intro h0 (And.intro hp hh))
    rw [if_pos h0, hp, h0, Option.getD_some]
    obtain ⟨R, HR⟩ := nm (nodeY l h 0)
    rw [← HR.out]
    clear hs hlen hp h0 hh
    go_enter Try.func21, Try.ntmps21
    go_wp2_with fail
    refine (rheight_any L _).mono ?_
    rintro e w1 ⟨rfl, rfl⟩
    rw [hgt_ok HC.out.1 HC.out.2.1, HC.out.1]
    go_wp2_with fail
    refine (rnode_any l B A L c hL h 0 _ hh10 (by rw [HC.out.2.2]; omega) HS.out).mono ?_
    rintro e w2 ⟨rfl, hf⟩
    rw [← HR.out]
    have ho : okA w2 w.heap.size 0 16 = true := by rw [okA_fr hf _ _ _ (by simp)]; simp
    have HF := Lib.hid (((Fr.refl (fun _ => False) w).newE _ _ _).trans hf)
    clear hf
    go_wp2_with fail
    exact fin_E2 (eB 16) rfl Try.underlying24 rfl einfo_bulletin_bulletinref06_N (by rfl) rfl ho ⟨rfl, HF.out.fin _ (Nat.le_refl _) _ _⟩
  · rw [if_neg h0]
    have h0' : (chkN L == 0) = false := by simpa using h0
    have HC := Lib.hid h0
    obtain ⟨x, HX⟩ := nm (chkN L)
    rw [← HX.out] at h0 h0' ⊢
    clear hs hlen
    go_enter Try.func21, Try.ntmps21
    go_wp2_with fail
    refine (rheight_any L _).mono ?_
    rintro e w1 ⟨rfl, rfl⟩
    rw [hgt_bad HC.out, ← HX.out]
    go_wp2_with fail
    exact bodyPost_E2 (eB 16) (x := z16N) rfl Try.underlying24 rfl einfo_bulletin_bulletinref06_N (by rfl) ((eB 16).at_new _ _) rfl ⟨rfl, (Fr.refl _ _).newE _ _ _⟩

set_option maxHeartbeats 1000000 in
theorem rpath_any (l : List Nd) (i : Int) (B : Nat) (A : Option Addr) (L c : Nat) (w : World) (hs : (eB 16).Rds w B (.slice A L c) l) (hL : L ≤ 2000) :
    Calls Try.prog 23 #[.slice A L c, .int .i64 i] w fun e w' => ∃ A2 c2, e = .returned (.tuple #[.slice A2 (pathR l i).1.length c2, .int .i64 (pathR l i).2]) ∧ (eB 16).Own 24 w' w.heap.size A2 c2 (pathR l i).1.length (pathR l i).1 ∧ Fr0 w w' := by
  have hlen := hs.len
  unfold pathR
  rw [hlen]
  by_cases h0 : chkN L = 0
  · rw [if_pos h0]
    obtain ⟨h, hp, hh, hh10⟩ := chk_ok h0
    have HC := Lib.hid (And.intro h0 (And.intro hp hh))
    by_cases h1 : 0 ≤ i
    · by_cases h2 : i < (L : Int)
      · rw [if_pos ⟨h1, h2⟩, hp, Option.getD_some]
        obtain ⟨n, rfl⟩ := Int.eq_ofNat_of_zero_le h1
        simp only [Int.toNat_natCast, Mk.pathN_length]
        have HS := Lib.hid hs
        have HN := Lib.hid (show n < 2 ^ h by omega)
        have hn10 : n ≤ 2000 := by omega
        have hnL : ¬ L ≤ n := by omega
        clear hs hlen h0 hp hh
        go_enter Try.func23, Try.ntmps23
        go_wp2_with fail
        refine (rheight_any L _).mono ?_
        rintro e w1 ⟨rfl, rfl⟩
        rw [hgt_ok HC.out.1 HC.out.2.1, HC.out.1]
        go_wp2_with fail
        go_loopw [8, 9, 10] (fun v x _ wr => ∃ k A2 c2, x = .int .i64 (k : Nat) ∧ v = .slice A2 k c2 ∧ k ≤ h ∧ k ≤ c2 ∧ c2 ≤ maxLen ∧ RowKit.Hid ((eB 16).Own 24 wr w.heap.size A2 c2 k (pathY l n k)) ∧ RowKit.Hid (Fr0 w wr)) (fun _ v _ _ => 20 - (intOf v).toNat)
        case atStart => exact ⟨0, none, 0, rfl, rfl, by omega, by omega, by unfold maxLen; omega, Lib.hid (Enc.Own.nil _ _ _ _), Lib.hid (Fr.refl _ _)⟩
        case round =>
          obtain ⟨k, A2, c2, rfl, rfl, hk, q3, q4, HO, HF⟩ := hrel
          by_cases hlt : k < h
          · have z0 : (k : Int) < (h : Int) := by omega
            have hshr := shr_nat n k (by omega)
            have hshr2 := shr_nat2 n k
            have hjl : n >>> k < 2 ^ (h - k) := shift_lt HN.out hk
            have hP := Lib.hid (Mk.pathN_succ jn l n k)
            have hsl : Mk.sib (n >>> k) < 2 ^ (h - k) := by
              rw [show h - k = h - k - 1 + 1 by omega] at hjl ⊢
              exact sib_lt hjl
            have hbd : (Mk.sib (n >>> k) + 1) * 2 ^ k ≤ L := by
              rw [HC.out.2.2, show h = h - k + k by omega, Nat.pow_add]
              exact Nat.mul_le_mul_right _ hsl
            have hj2 : n >>> k ≤ n := Nat.shiftRight_le n k
            obtain ⟨j, HJ⟩ := nm (n >>> k)
            rw [← HJ.out] at hshr hshr2 hbd hj2
            have htm := tmod2 j
            have HB := Lib.hid hbd
            clear hjl hsl hbd
            rcases Nat.mod_two_eq_zero_or_one j with hb | hb
            · have hsib : Mk.sib j = j + 1 := by unfold Mk.sib; rw [if_pos hb]
              rw [hb] at htm
              go_wp2_with fail
              refine (rnode_any l B A L c hL k (j + 1) _ (by omega) (by rw [← hsib]; exact HB.out) (HS.out.fr0 HF.out)).mono ?_
              rintro e w2 ⟨rfl, hf2⟩
              obtain ⟨R, HR⟩ := nm (nodeY l k (j + 1))
              rw [← HR.out]
              obtain ⟨A3, c3, w3, hrun, ho3, hf3, q5, q6⟩ := Enc.Own.app1 eapok___bulletinref06_N (by omega) (HO.out.fr0 hf2) (HF.out.trans hf2) rfl R (by omega) (by unfold maxLen; omega)
              have HO3 := Lib.hid ho3
              have HF3 := Lib.hid hf3
              clear ho3 hf3 hf2
              go_wp2_with fail
              go_roundw
              case rel =>
                first
                | exact ⟨k + 1, A3, c3, by go_num, rfl, by omega, q5, q6, Lib.hid (by have h := HO3.out; rw [HR.out, ← hsib, HJ.out, ← hP.out] at h; exact h), HF3⟩
                | ((repeat apply Exists.intro); exact ⟨⟨k + 1, A3, c3, by go_num, rfl, by omega, q5, q6, Lib.hid (by have h := HO3.out; rw [HR.out, ← hsib, HJ.out, ← hP.out] at h; exact h), HF3⟩, rfl⟩)
              case measure => simp [intOf]; omega
            · have hsib : Mk.sib j = j - 1 := by unfold Mk.sib; rw [if_neg (by omega)]
              rw [hb] at htm
              have hj1 : (j : Int) - 1 = ((j - 1 : Nat) : Int) := by omega
              go_wp2_with fail
              refine (rnode_any l B A L c hL k (j - 1) _ (by omega) (by rw [← hsib]; exact HB.out) (HS.out.fr0 HF.out)).mono ?_
              rintro e w2 ⟨rfl, hf2⟩
              obtain ⟨R, HR⟩ := nm (nodeY l k (j - 1))
              rw [← HR.out]
              obtain ⟨A3, c3, w3, hrun, ho3, hf3, q5, q6⟩ := Enc.Own.app1 eapok___bulletinref06_N (by omega) (HO.out.fr0 hf2) (HF.out.trans hf2) rfl R (by omega) (by unfold maxLen; omega)
              have HO3 := Lib.hid ho3
              have HF3 := Lib.hid hf3
              clear ho3 hf3 hf2
              go_wp2_with fail
              go_roundw
              case rel =>
                first
                | exact ⟨k + 1, A3, c3, by go_num, rfl, by omega, q5, q6, Lib.hid (by have h := HO3.out; rw [HR.out, ← hsib, HJ.out, ← hP.out] at h; exact h), HF3⟩
                | ((repeat apply Exists.intro); exact ⟨⟨k + 1, A3, c3, by go_num, rfl, by omega, q5, q6, Lib.hid (by have h := HO3.out; rw [HR.out, ← hsib, HJ.out, ← hP.out] at h; exact h), HF3⟩, rfl⟩)
              case measure => simp [intOf]; omega
          · obtain rfl : h = k := by omega
            go_wp2_with fail
            go_ret2
            exact ⟨_, _, rfl, HO.out, HF.out⟩
      · rw [if_neg (fun h => h2 h.2)]
        clear hs hlen hp hh h0
        go_enter Try.func23, Try.ntmps23
        go_wp2_with fail
        refine (rheight_any L _).mono ?_
        rintro e w1 ⟨rfl, rfl⟩
        rw [HC.out.1]
        go_wp2_with fail
        go_ret2
        exact ⟨_, _, rfl, Enc.Own.nil _ _ _ _, Fr.refl _ _⟩
    · rw [if_neg (fun h => h1 h.1)]
      clear hs hlen hp hh h0
      go_enter Try.func23, Try.ntmps23
      go_wp2_with fail
      refine (rheight_any L _).mono ?_
      rintro e w1 ⟨rfl, rfl⟩
      rw [HC.out.1]
      go_wp2_with fail
      go_ret2
      exact ⟨_, _, rfl, Enc.Own.nil _ _ _ _, Fr.refl _ _⟩
  · rw [if_neg h0]
    have h0' : (chkN L == 0) = false := by simpa using h0
    have HC := Lib.hid h0
    obtain ⟨x, HX⟩ := nm (chkN L)
    rw [← HX.out] at h0 h0' ⊢
    clear hs hlen
    go_enter Try.func23, Try.ntmps23
    go_wp2_with fail
    refine (rheight_any L _).mono ?_
    rintro e w1 ⟨rfl, rfl⟩
    rw [hgt_bad HC.out, ← HX.out]
    go_wp2_with fail
    go_ret2
    exact ⟨_, _, rfl, Enc.Own.nil _ _ _ _, Fr.refl _ _⟩
end Go.Proofs.Ytnholkjgdpapbaa
