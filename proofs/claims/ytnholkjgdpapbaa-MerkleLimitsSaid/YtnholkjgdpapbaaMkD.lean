/- Chapter 06: Root, path, Path. No condition beyond the lengths that are named. -/
import Derived.Test.YtnholkjgdpapbaaMkC
import Derived.Test.YtnholkjgdpapbaaBit
namespace Go.Proofs.Ytnholkjgdpapbaa
set_option linter.unusedVariables false
set_option linter.unusedSimpArgs false
set_option maxRecDepth 10000
open Go.RowKit
attribute [local go_sem ↓] Go.wp_at_zero Go.wp_at_succ

theorem lev_node (l : List Nd) {h : Nat} (hl : l.length = 2 ^ h) (k : Nat) (hk : k ≤ h) (i : Nat) (hi : i < 2 ^ (h - k)) : (levY l k)[i]? = some (nodeY l k i) :=
  Mk.lev_get jn l k i (by rw [hl, Nat.pow_div hk (by omega)]; exact hi)
/-- The root, and what check answers. -/
def rootY (l : List Nd) : Nd := if chkN l.length = 0 then nodeY l ((p2 l.length).getD 0) 0 else z16N

set_option maxHeartbeats 1000000 in
theorem mroot_any (l : List Nd) (B : Nat) (A : Option Addr) (L c : Nat) (w : World) (hs : (eB 16).Rds w B (.slice A L c) l) (hL : L ≤ 100000) :
    Calls Try.prog 20 #[.slice A L c] w fun e w' => e = .returned (.tuple #[(eB 16).v (rootY l), .int .i64 (chkN L)]) ∧ Fr0 w w' := by
  have hlen := hs.len
  have hr : rootY l = if chkN L = 0 then nodeY l ((p2 L).getD 0) 0 else z16N := by unfold rootY; rw [hlen]
  rw [hr]
  clear hr
  by_cases h0 : chkN L = 0
  · obtain ⟨h, hp, hh, hh10⟩ := chk_ok h0
    rw [if_pos h0, hp, h0, Option.getD_some]
    have HS := Lib.hid (hs.fr0 ((Fr.refl (fun _ => False) w).newE (eB 16) 27 z16N))
    have HL := Lib.hid (hlen.trans hh)
    have H0 := Lib.hid h0
    obtain ⟨R, HR⟩ := nm (nodeY l h 0)
    rw [← HR.out]
    clear hs hlen hh hp h0
    go_enter Try.func20, Try.ntmps20
    go_wp2_with fail
    refine (check_any L A c _).mono ?_
    rintro e w1 ⟨rfl, rfl⟩
    rw [H0.out]
    go_wp2_with fail
    refine (levels_any l h hh10 HL.out B A L c _ HS.out).mono ?_
    rintro e w2 ⟨A2, c2, ls, rfl, hlv, hf⟩
    obtain ⟨b, off, Ab, cb, rfl, hb, hcell, hrd⟩ := hlv.rds h (by omega)
    have hln := lev_len l HL.out h (Nat.le_refl _)
    rw [Nat.sub_self, Nat.pow_zero] at hln
    rw [hln] at hcell hrd
    obtain ⟨bb, ob, rfl, _, hbs, hx⟩ := hrd.atq (by rw [hln]; omega)
    have hat := hx 0 R (by rw [HR.out]; exact lev_node l HL.out h (Nat.le_refl _) 0 (by rw [Nat.sub_self]; omega))
    rw [Nat.zero_mul, Nat.add_zero] at hat
    obtain ⟨q1, q2⟩ := hlv.own.cap
    have ho : okA w2 w.heap.size 0 16 = true := by rw [okA_fr hf _ _ _ (by simp)]; simp
    have HF := Lib.hid (((Fr.refl (fun _ => False) w).newE _ _ _).trans hf)
    clear hlv hf hx hrd hln
    go_wp2_with fail
    exact fin_E2 (eB 16) rfl Try.underlying27 rfl einfo_bulletin_merkle_Node (by rfl) rfl ho ⟨rfl, HF.out.fin _ (Nat.le_refl _) _ _⟩
  · rw [if_neg h0]
    have h0' : (chkN L == 0) = false := by simpa using h0
    obtain ⟨x, HX⟩ := nm (chkN L)
    rw [← HX.out] at h0 h0' ⊢
    clear hs hlen
    go_enter Try.func20, Try.ntmps20
    go_wp2_with fail
    refine (check_any L A c _).mono ?_
    rintro e w1 ⟨rfl, rfl⟩
    rw [← HX.out]
    go_wp2_with fail
    exact bodyPost_E2 (eB 16) (x := z16N) rfl Try.underlying27 rfl einfo_bulletin_merkle_Node (by rfl) ((eB 16).at_new _ _) rfl ⟨rfl, (Fr.refl _ _).newE _ _ _⟩

abbrev pathY (l : List Nd) (i h : Nat) : List Nd := Mk.pathN jn l i h
theorem sib_lt {j n : Nat} (h : j < 2 ^ (n + 1)) : Mk.sib j < 2 ^ (n + 1) := by
  rw [Nat.pow_succ] at h ⊢
  unfold Mk.sib; split <;> omega
theorem shift_lt {i h k : Nat} (hi : i < 2 ^ h) (hk : k ≤ h) : i >>> k < 2 ^ (h - k) := by
  rw [Nat.shiftRight_eq_div_pow]
  refine (Nat.div_lt_iff_lt_mul (Nat.two_pow_pos k)).2 ?_
  rw [← Nat.pow_add, show h - k + k = h by omega]; exact hi

set_option maxHeartbeats 1000000 in
theorem path_any (l : List Nd) (h i : Nat) (hh : h ≤ 10) (hl : l.length = 2 ^ h) (hi : i < 2 ^ h) (base : Nat) (A : Option Addr) (c : Nat) (ls : List Sv) (w : World) (hs : LevAt w base A c l (h + 1) ls) :
    Calls Try.prog 44 #[.slice A (h + 1) c, .int .i64 (i : Int)] w fun e w' => ∃ A2 c2, e = .returned (.slice A2 h c2) ∧ (eB 16).Own 27 w' w.heap.size A2 c2 h (pathY l i h) ∧ Fr0 w w' := by
  have hi10 : i < 1024 := by
    have : 2 ^ h ≤ 2 ^ 10 := Nat.pow_le_pow_right (by omega) hh
    omega
  obtain ⟨b, off, _, _, rfl, hb, _, _⟩ := hs.rds h (by omega)
  obtain ⟨q1, q2⟩ := hs.own.cap
  have HS := Lib.hid hs
  have HL := Lib.hid hl
  have HI := Lib.hid hi
  unfold maxLen at q2
  clear hs hl hi
  go_enter Try.func44, Try.ntmps44
  go_wp2_with fail
  go_loopw [1, 5, 7, 14] (fun iv v _ x wr => ∃ k j A2 c2, iv = .int .i64 (j : Nat) ∧ x = .int .i64 (k : Nat) ∧ v = .slice A2 k c2 ∧ k ≤ h ∧ j ≤ 1024 ∧ k ≤ c2 ∧ c2 ≤ maxLen ∧ RowKit.Hid (j = i >>> k) ∧ RowKit.Hid ((eB 16).Own 27 wr w.heap.size A2 c2 k (pathY l i k)) ∧ RowKit.Hid (Fr0 w wr)) (fun _ _ _ v _ => 20 - (intOf v).toNat)
  case atStart => exact ⟨0, i, none, 0, rfl, rfl, rfl, by omega, by omega, by omega, by unfold maxLen; omega, Lib.hid rfl, Lib.hid (Enc.Own.nil _ _ _ _), Lib.hid (Fr.refl _ _)⟩
  case round =>
    obtain ⟨k, j, A2, c2, rfl, rfl, rfl, hk, hj, q3, q4, HJ, HO, HF⟩ := hrel
    by_cases hlt : k < h
    · have z0 : (k : Int) < (h : Int) := by omega
      obtain ⟨b', off', Ab, cb, hA, _, hcell0, hrd⟩ := HS.out.rds k (by omega)
      injection hA with hA
      injection hA with e1 e2
      subst e1; subst e2
      have hcell := (HF.out.cell (p := ⟨b, off + k, none⟩) hb (fun h => h)).trans hcell0
      have hln := lev_len l HL.out k hk
      have hjl : j < 2 ^ (h - k) := by rw [HJ.out]; exact shift_lt HI.out hk
      have hsl : Mk.sib j < 2 ^ (h - k) := by
        rw [show h - k = h - k - 1 + 1 by omega] at hjl ⊢
        exact sib_lt hjl
      obtain ⟨bb, ob, rfl, _, hbs, hx⟩ := hrd.atq (by rw [hln]; exact Nat.two_pow_pos _)
      have hat := ((eB 16).at_fr HF.out _ _ hbs).trans (hx (Mk.sib j) _ (lev_node l HL.out k hk _ hsl))
      have hxor := bits_xor1 (n := j) (by omega)
      have hN : (levY l k).length ≤ 1024 := by
        have : 2 ^ (h - k) ≤ 2 ^ 10 := Nat.pow_le_pow_right (by omega) (by omega)
        omega
      have hqc := hrd.cap
      have HP := Lib.hid (show pathY l i (k + 1) = pathY l i k ++ [nodeY l k (Mk.sib j)] by rw [HJ.out]; exact Mk.pathN_succ jn l i k)
      rw [← hln] at hsl
      obtain ⟨N, HN⟩ := nm (levY l k).length
      obtain ⟨s, HSI⟩ := nm (Mk.sib j)
      obtain ⟨R, HR⟩ := nm (nodeY l k (Mk.sib j))
      rw [← HN.out] at hcell hsl hN hqc
      rw [← HR.out] at hat
      rw [← HSI.out] at hat hsl hxor
      have z1 : (s : Int) < (N : Int) := by omega
      have z2 : (0 : Int) ≤ (s : Int) := by omega
      obtain ⟨A3, c3, w3, hrun, ho3, hf3, q5, q6⟩ := Enc.Own.app1 eapok___merkle_Node (by omega) HO.out HF.out rfl R (by omega) (by unfold maxLen; omega)
      have HO3 := Lib.hid ho3
      have HF3 := Lib.hid hf3
      obtain ⟨q7, q8⟩ := hqc
      clear hcell0 hrd hln hjl hx ho3 hf3
      go_wp2_with fail
      go_roundw
      case rel => exact ⟨k + 1, j / 2, A3, c3, by go_num, by go_num, rfl, by omega, by omega, q5, q6, Lib.hid (by rw [Mk.shift_succ, HJ.out]), Lib.hid (by rw [HP.out, ← HR.out]; exact HO3.out), HF3⟩
      case measure => simp [intOf]; omega
    · obtain rfl : h = k := by omega
      go_wp2_with fail
      go_ret
      exact ⟨_, _, rfl, HO.out, HF.out⟩
end Go.Proofs.Ytnholkjgdpapbaa
