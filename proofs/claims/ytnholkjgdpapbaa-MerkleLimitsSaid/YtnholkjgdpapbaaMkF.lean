/- Chapter 06: Verify, Path; the law's helpers Own, same, known. No condition beyond the lengths that are named. -/
import Derived.Test.YtnholkjgdpapbaaMkE
import Derived.Deep.Quiet
import Derived.Deep.QuietTactic
namespace Go.Proofs.Ytnholkjgdpapbaa
set_option linter.unusedVariables false
set_option linter.unusedSimpArgs false
set_option maxRecDepth 10000
open Go.RowKit
attribute [local go_sem ↓] Go.wp_at_zero Go.wp_at_succ

def verifyY (root x : Nd) (i : Int) (p : List Nd) : Bool := decide (fromE p.length i = 0) && decide (fromY x i p = root)

set_option maxHeartbeats 1000000 in
theorem verify_any (root x : Nd) (i : Int) (p : List Nd) (B : Nat) (A : Option Addr) (L c : Nat) (w : World) (hs : (eB 16).Rds w B (.slice A L c) p) (hB : B ≤ w.heap.size) :
    Calls Try.prog 24 #[(eB 16).v root, (eB 16).v x, .int .i64 i, .slice A L c] w fun e w' => e = .returned (.bool (verifyY root x i p)) ∧ Fr0 w w' := by
  obtain ⟨wB, HB⟩ := nm ((eB 16).new 27 ((eB 16).new 27 w root) x)
  have hF : Fr0 w wB := by rw [HB.out]; exact ((Fr.refl (fun _ => False) w).newE _ _ _).newE _ _ _
  have a0 : (eB 16).at_ wB w.heap.size 0 = some root := by rw [HB.out]; simp
  have a1 : (eB 16).at_ wB (w.heap.size + 1) 0 = some x := by rw [HB.out]; simp
  have HS := Lib.hid (hs.fr0 hF)
  have H := Lib.hid (And.intro hF (And.intro a0 (Nat.le_trans hB hF.size)))
  unfold verifyY
  rw [hs.len]
  obtain ⟨E, HE⟩ := nm (fromE L i)
  rw [← HE.out]
  clear hs hF a0
  go_enter Try.func24, Try.ntmps24
  go_wp2_with fail
  rw [← HB.out]
  clear HB a1
  refine (from_any x i p B A L c _ HS.out H.out.2.2).mono ?_
  rintro e w2 ⟨rfl, hf⟩
  rw [← HE.out]
  obtain ⟨R, HR⟩ := nm (fromY x i p)
  rw [← HR.out]
  have a0 := ((eB 16).at_fr hf _ _ ((eB 16).at_lt H.out.2.1)).trans H.out.2.1
  have hlt := (eB 16).at_lt a0
  have HF := Lib.hid (H.out.1.trans hf)
  clear hf
  by_cases h0 : E = 0
  · subst h0
    go_wp2_with fail
    go_ret
    exact ⟨ret_bool (by simp [HR.out]), (HF.out.newE _ _ _)⟩
  · have h0' : (E == 0) = false := by simpa using h0
    go_wp2_with fail
    go_ret
    exact ⟨ret_bool (by simp [h0]), (HF.out.newE _ _ _)⟩

/-- What Path answers. -/
def pathR (l : List Nd) (i : Int) : List Nd × Int := if chkN l.length = 0 then (if 0 ≤ i ∧ i < l.length then (pathY l i.toNat ((p2 l.length).getD 0), 0) else ([], 8)) else ([], chkN l.length)

set_option maxHeartbeats 1000000 in
theorem mpath_any (l : List Nd) (i : Int) (B : Nat) (A : Option Addr) (L c : Nat) (w : World) (hs : (eB 16).Rds w B (.slice A L c) l) :
    Calls Try.prog 22 #[.slice A L c, .int .i64 i] w fun e w' => ∃ A2 c2, e = .returned (.tuple #[.slice A2 (pathR l i).1.length c2, .int .i64 (pathR l i).2]) ∧ (eB 16).Own 27 w' w.heap.size A2 c2 (pathR l i).1.length (pathR l i).1 ∧ Fr0 w w' := by
  have hlen := hs.len
  unfold pathR
  rw [hlen]
  by_cases h0 : chkN L = 0
  · rw [if_pos h0]
    obtain ⟨h, hp, hh, hh10⟩ := chk_ok h0
    have H0 := Lib.hid h0
    by_cases h1 : 0 ≤ i
    · by_cases h2 : i < (L : Int)
      · rw [if_pos ⟨h1, h2⟩, hp, Option.getD_some]
        obtain ⟨n, rfl⟩ := Int.eq_ofNat_of_zero_le h1
        simp only [Int.toNat_natCast, Mk.pathN_length]
        have HS := Lib.hid hs
        have HL := Lib.hid (hlen.trans hh)
        have HN := Lib.hid (show n < 2 ^ h by omega)
        clear hs hlen h0 hp hh
        go_enter Try.func22, Try.ntmps22
        go_wp2_with fail
        refine (check_any L A c _).mono ?_
        rintro e w1 ⟨rfl, rfl⟩
        rw [H0.out]
        go_wp2_with fail
        refine (levels_any l h hh10 HL.out B A L c _ HS.out).mono ?_
        rintro e w2 ⟨A2, c2, ls, rfl, hlv, hf⟩
        have HLV := Lib.hid hlv
        have HF := Lib.hid hf
        clear hlv hf
        go_wp2_with fail
        refine (path_any l h n hh10 HL.out HN.out _ A2 c2 ls w2 HLV.out).mono ?_
        rintro e w3 ⟨A3, c3, rfl, ho, hf⟩
        have HO := Lib.hid (ho.mono HF.out.size)
        have HF3 := Lib.hid (HF.out.trans hf)
        clear ho hf
        go_wp2_with fail
        go_ret2
        exact ⟨_, _, rfl, HO.out, HF3.out⟩
      · rw [if_neg (fun h => h2 h.2)]
        clear hs hlen hp hh h0
        go_enter Try.func22, Try.ntmps22
        go_wp2_with fail
        refine (check_any L A c _).mono ?_
        rintro e w1 ⟨rfl, rfl⟩
        rw [H0.out]
        go_wp2_with fail
        go_ret2
        exact ⟨_, _, rfl, Enc.Own.nil _ _ _ _, Fr.refl _ _⟩
    · rw [if_neg (fun h => h1 h.1)]
      clear hs hlen hp hh h0
      go_enter Try.func22, Try.ntmps22
      go_wp2_with fail
      refine (check_any L A c _).mono ?_
      rintro e w1 ⟨rfl, rfl⟩
      rw [H0.out]
      go_wp2_with fail
      go_ret2
      exact ⟨_, _, rfl, Enc.Own.nil _ _ _ _, Fr.refl _ _⟩
  · rw [if_neg h0]
    have h0' : (chkN L == 0) = false := by simpa using h0
    obtain ⟨x, HX⟩ := nm (chkN L)
    rw [← HX.out] at h0 h0' ⊢
    clear hs hlen
    go_enter Try.func22, Try.ntmps22
    go_wp2_with fail
    refine (check_any L A c _).mono ?_
    rintro e w1 ⟨rfl, rfl⟩
    rw [← HX.out]
    go_wp2_with fail
    go_ret2
    exact ⟨_, _, rfl, Enc.Own.nil _ _ _ _, Fr.refl _ _⟩

set_option maxHeartbeats 1000000 in
theorem own_any (l : List Nd) (B : Nat) (A : Option Addr) (L c : Nat) (w : World) (hs : (eB 16).Rds w B (.slice A L c) l) (hL : L ≤ 2000) :
    Calls Try.prog 17 #[.slice A L c] w fun e w' => ∃ A2 c2, e = .returned (.slice A2 L c2) ∧ (eB 16).Own 27 w' w.heap.size A2 c2 L l ∧ Fr0 w w' := by
  have HL := Lib.hid hs.len
  obtain ⟨q1, q2⟩ := hs.cap
  unfold maxLen at q2
  have HS := Lib.hid hs
  clear hs
  go_enter Try.func17, Try.ntmps17
  go_wp2_with fail
  go_loopw [3, 4] (fun v x wr => ∃ k A2 c2, x = .int .i64 (k : Nat) ∧ v = .slice A2 k c2 ∧ k ≤ L ∧ k ≤ c2 ∧ c2 ≤ maxLen ∧ RowKit.Hid ((eB 16).Own 27 wr w.heap.size A2 c2 k (l.take k)) ∧ RowKit.Hid (Fr0 w wr)) (fun _ v _ => L - (intOf v).toNat)
  case atStart => exact ⟨0, none, 0, rfl, rfl, by omega, by omega, by unfold maxLen; omega, Lib.hid (Enc.Own.nil _ _ _ _), Lib.hid (Fr.refl _ _)⟩
  case round =>
    obtain ⟨k, A2, c2, rfl, rfl, hk, q3, q4, HO, HF⟩ := hrel
    by_cases hlt : k < L
    · have z0 : (k : Int) < (L : Int) := by omega
      obtain ⟨y, hy⟩ : ∃ y, l[k]? = some y := ⟨_, List.getElem?_eq_getElem (by have := HL.out; omega)⟩
      obtain ⟨b, off, rfl, _, hbs, hx⟩ := HS.out.atq (by have := HL.out; omega)
      have hat := ((eB 16).at_fr HF.out _ _ hbs).trans (hx k y hy)
      have HT := Lib.hid (show l.take (k + 1) = l.take k ++ [y] by obtain ⟨h1, rfl⟩ := List.getElem?_eq_some_iff.1 hy; exact List.take_succ_eq_append_getElem h1)
      obtain ⟨A3, c3, w3, hrun, ho3, hf3, q5, q6⟩ := Enc.Own.app1 eapok___merkle_Node (by omega) HO.out HF.out rfl y (by omega) (by unfold maxLen; omega)
      have HO3 := Lib.hid ho3
      have HF3 := Lib.hid hf3
      clear hx hy ho3 hf3
      go_wp2_with fail
      go_roundw
      case rel => exact ⟨k + 1, A3, c3, by go_num, rfl, by omega, q5, q6, Lib.hid (by rw [HT.out]; exact HO3.out), HF3⟩
      case measure => simp [intOf]; omega
    · obtain rfl : L = k := by omega
      go_wp2_with fail
      go_ret
      exact ⟨_, _, rfl, by have := HO.out; rwa [List.take_of_length_le (by have := HL.out; omega)] at this, HF.out⟩

set_option maxHeartbeats 1000000 in
theorem same_any (l m : List Nd) (B B' : Nat) (A A' : Option Addr) (L L' c c' : Nat) (w : World) (hs : (eB 16).Rds w B (.slice A L c) l) (hm : (eB 16).Rds w B' (.slice A' L' c') m) :
    Calls Try.prog 19 #[.slice A L c, .slice A' L' c'] w fun e w' => e = .returned (.bool (decide (l = m))) ∧ Fr0 w w' := by
  have HL := Lib.hid hs.len
  have HM := Lib.hid hm.len
  obtain ⟨q1, q2⟩ := hs.cap
  unfold maxLen at q2
  have HS := Lib.hid (And.intro hs hm)
  clear hs hm
  by_cases hLL : L = L'
  · subst hLL
    go_enter Try.func19, Try.ntmps19
    go_wp2_with fail
    go_loopw [5] (fun x wr => ∃ k : Nat, x = .int .i64 (k : Nat) ∧ k ≤ L ∧ RowKit.Hid (l.take k = m.take k) ∧ RowKit.Hid (Fr0 w wr)) (fun v _ => L - (intOf v).toNat)
    case atStart => exact ⟨0, rfl, by omega, Lib.hid (by simp), Lib.hid (Fr.refl _ _)⟩
    case round =>
      obtain ⟨k, rfl, hk, HT, HF⟩ := hrel
      by_cases hlt : k < L
      · have z0 : (k : Int) < (L : Int) := by omega
        obtain ⟨y, hy⟩ : ∃ y, l[k]? = some y := ⟨_, List.getElem?_eq_getElem (by have := HL.out; omega)⟩
        obtain ⟨z, hz⟩ : ∃ y, m[k]? = some y := ⟨_, List.getElem?_eq_getElem (by have := HM.out; omega)⟩
        obtain ⟨b, off, rfl, _, hbs, hx⟩ := HS.out.1.atq (by have := HL.out; omega)
        obtain ⟨b', off', rfl, _, hbs', hx'⟩ := HS.out.2.atq (by have := HM.out; omega)
        have hat := ((eB 16).at_fr HF.out _ _ hbs).trans (hx k y hy)
        have hat' := ((eB 16).at_fr HF.out _ _ hbs').trans (hx' k z hz)
        have HY := Lib.hid (And.intro hy hz)
        clear hx hx' hy hz
        by_cases hyz : y = z
        · subst hyz
          go_wp2_with fail
          go_quiet (fail)
          go_wp2_with fail
          go_roundw
          case rel =>
            refine ⟨k + 1, by go_num, by omega, Lib.hid ?_, Lib.hid (HF.out.drewN _)⟩
            obtain ⟨h1, e1⟩ := List.getElem?_eq_some_iff.1 HY.out.1
            obtain ⟨h2, e2⟩ := List.getElem?_eq_some_iff.1 HY.out.2
            rw [List.take_succ_eq_append_getElem h1, List.take_succ_eq_append_getElem h2, HT.out, e1, e2]
          case measure => simp [intOf]; omega
        · go_wp2_with fail
          go_quiet (fail)
          go_wp2_with fail
          go_ret
          refine ⟨ret_bool ?_, HF.out.drewN _⟩
          symm; rw [decide_eq_false_iff_not]
          rintro rfl
          have := HY.out.1.symm.trans HY.out.2
          injection this with this
          exact hyz this
      · obtain rfl : L = k := by omega
        go_wp2_with fail
        go_ret
        refine ⟨ret_bool ?_, HF.out⟩
        symm; rw [decide_eq_true_eq]
        have h := HT.out
        rwa [List.take_of_length_le (by have := HL.out; omega), List.take_of_length_le (by have := HM.out; omega)] at h
  · have z0 : ¬ (L : Int) = (L' : Int) := by omega
    go_enter Try.func19, Try.ntmps19
    go_wp2_with fail
    go_ret
    refine ⟨ret_bool ?_, Fr.refl _ _⟩
    symm; rw [decide_eq_false_iff_not]
    rintro rfl
    exact hLL (HL.out.symm.trans HM.out)
end Go.Proofs.Ytnholkjgdpapbaa
