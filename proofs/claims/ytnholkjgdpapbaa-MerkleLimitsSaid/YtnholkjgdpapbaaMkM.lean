/- Chapter 06: the builder's Add. No condition beyond what is named. -/
import Derived.Test.YtnholkjgdpapbaaMkL
import Derived.Deep.CutRange
namespace Go.Proofs.Ytnholkjgdpapbaa
set_option linter.unusedVariables false
set_option linter.unusedSimpArgs false
set_option maxRecDepth 10000
open Go.RowKit
attribute [local go_sem ↓] Go.wp_at_zero Go.wp_at_succ

theorem getD_app (l : List Nd) (x : Nd) (i : Nat) (h : i < l.length) : (l ++ [x]).getD i default = l.getD i default := by
  simp only [List.getD]; rw [List.getElem?_append_left h]
theorem node_app (l : List Nd) (x : Nd) (h q : Nat) (hq : q + 1 ≤ l.length >>> h) : Mk.node jn (l ++ [x]) h q = Mk.node jn l h q := by
  refine Mk.node_congr jn (fun j hj => getD_app l x _ ?_)
  rw [Nat.shiftRight_eq_div_pow] at hq
  have h1 := Nat.mul_le_mul_right (2 ^ h) hq
  have h2 := Nat.div_mul_le_self l.length (2 ^ h)
  rw [Nat.add_mul, Nat.one_mul] at h1
  omega
theorem bit_odd {n h : Nat} (hb : Mk.bit n h = true) : (n >>> h) % 2 = 1 := of_decide_eq_true hb
theorem add_step (l : List Nd) (x : Nd) (k : Nat) (hb : Mk.bit l.length k = true) :
    joinY ((k : Int) + 1) (Mk.pnode jn l l.length k) (Mk.node jn (l ++ [x]) k (l.length >>> k)) = Mk.node jn (l ++ [x]) (k + 1) (l.length >>> (k + 1)) := by
  have h1 := bit_odd hb
  rw [Mk.node, jn_succ, Mk.shift_succ, show 2 * (l.length >>> k / 2) + 1 = l.length >>> k by omega, show 2 * (l.length >>> k / 2) = l.length >>> k - 1 by omega, node_app l x k (l.length >>> k - 1) (by generalize l.length >>> k = q at h1 ⊢; omega)]
  rfl
theorem bit_big {n : Nat} (h : n < 1024) : Mk.bit n 10 = false := by
  unfold Mk.bit
  rw [Nat.shiftRight_eq_div_pow, Nat.div_eq_of_lt (by omega)]; rfl
/-- What is pending behind the adding of a leaf. -/
theorem add_rows (l : List Nd) (x : Nd) (k : Nat) (hlow : ∀ j, j < k → Mk.bit l.length j = true) (h0 : Mk.bit l.length k = false) (h : Nat) (hb : Mk.bit (l ++ [x]).length h = true) :
    (h = k ∧ Mk.pnode jn (l ++ [x]) (l ++ [x]).length h = Mk.node jn (l ++ [x]) k (l.length >>> k)) ∨ (h ≠ k ∧ Mk.bit l.length h = true ∧ Mk.pnode jn (l ++ [x]) (l ++ [x]).length h = Mk.pnode jn l l.length h) := by
  rw [List.length_append, List.length_singleton] at hb ⊢
  rcases Nat.lt_trichotomy h k with hk | hk | hk
  · rw [Mk.carry_low _ k h hlow hk] at hb; cases hb
  · subst hk
    left
    refine ⟨rfl, ?_⟩
    unfold Mk.pnode
    rw [Mk.carry _ h hlow]; rfl
  · right
    have hc := Mk.carry_up _ k h hlow h0 hk
    have hb' : Mk.bit l.length h = true := by unfold Mk.bit at hb ⊢; rw [← hc]; exact hb
    refine ⟨by omega, hb', ?_⟩
    unfold Mk.pnode
    rw [hc]
    have := bit_odd hb'
    exact node_app l x h _ (by generalize l.length >>> h = q at this ⊢; omega)
/-- The builder behind the two stores of Add. -/
theorem Bdr.add {w : World} {b : Nat} {l : List Nd} (h : Bdr w b l) (x : Nd) (hlt : l.length < 1024) (k : Nat) (hk : k < 11) (hlow : ∀ j, j < k → Mk.bit l.length j = true) (h0 : Mk.bit l.length k = false) (v : Int) (hv : v = (l.length : Int) + 1) :
    Bdr (((eB 16).put w b (k * 16) (Mk.node jn (l ++ [x]) k (l.length >>> k))).setCell ⟨b, 176, none⟩ (.int .i64 v)) b (l ++ [x]) := by
  obtain ⟨_, cs, hB, h2, h3, h4⟩ := h
  have hsz := (eB 16).size (Mk.node jn (l ++ [x]) k (l.length >>> k))
  have hle : k * 16 + ((eB 16).f (Mk.node jn (l ++ [x]) k (l.length >>> k))).toArray.size ≤ cs.size := by rw [hsz]; omega
  refine ⟨by simp; omega, _, (hB.put _ _).set_ 176 _, by rw [Array.size_setIfInBounds, putAt_size _ _ _ hle]; exact h2, ?_, fun i hi hb => ?_⟩
  · rw [Array.getElem?_setIfInBounds_self_of_lt (by rw [putAt_size _ _ _ hle]; omega), hv]; simp
  · have hget : ∀ j, j < 16 → ((putAt cs (k * 16) ((eB 16).f (Mk.node jn (l ++ [x]) k (l.length >>> k))).toArray).setIfInBounds 176 (.int .i64 v))[i * 16 + j]? = (putAt cs (k * 16) ((eB 16).f (Mk.node jn (l ++ [x]) k (l.length >>> k))).toArray)[i * 16 + j]? := fun j hj => by
      rw [Array.getElem?_setIfInBounds_ne (by omega)]
    have hl := (eB 16).len
    apply Array.ext_getElem?
    intro j
    rcases add_rows l x k hlow h0 i hb with ⟨rfl, hp⟩ | ⟨hne, hb', hp⟩
    · rw [hp]
      by_cases hj : j < 16
      · rw [Array.getElem?_extract, if_pos (by rw [Array.size_setIfInBounds, putAt_size _ _ _ hle]; omega), hget j hj, putAt_get _ _ _ hle, if_neg (by omega), if_pos (by rw [hsz]; omega)]
        congr 1; omega
      · rw [Array.getElem?_eq_none (by simp only [Array.size_extract, Array.size_setIfInBounds, putAt_size _ _ _ hle]; omega), Array.getElem?_eq_none (by rw [hsz]; omega)]
    · rw [hp, ← h4 i hi hb']
      by_cases hj : j < 16
      · have hr : (cs.extract (i * 16) (i * 16 + 16))[j]? = cs[i * 16 + j]? := by rw [Array.getElem?_extract, if_pos (by omega)]
        rw [hr, Array.getElem?_extract, if_pos (by rw [Array.size_setIfInBounds, putAt_size _ _ _ hle]; omega), hget j hj, putAt_get _ _ _ hle, hsz]
        by_cases h5 : i < k
        · rw [if_pos (by omega)]
        · rw [if_neg (by omega), if_neg (by omega)]
      · rw [Array.getElem?_eq_none (by simp only [Array.size_extract, Array.size_setIfInBounds, putAt_size _ _ _ hle]; omega), Array.getElem?_eq_none (by simp only [Array.size_extract]; omega)]

def TT33 : List (List Nat) := [[], [0], [], [], [2], [2, 4], [2, 3, 4, 5], [2, 3, 4, 5, 6], [], [0, 1, 2, 3, 4, 5, 6, 7, 8], [0, 1, 2, 3, 4, 5, 6, 7, 8, 9]]

theorem add_nil (x : Nd) (w : World) : Calls Try.prog 33 #[.pointer none, (eB 16).v x] w fun e w' => e = .returned (.int .i64 1) ∧ Fr0 w w' := by
  go_enter Try.func33, Try.ntmps33
  go_wp2_with fail
  go_ret
  exact ⟨rfl, (Fr.refl _ _).newE _ _ _⟩
theorem add_full (b : Nat) (l : List Nd) (x : Nd) (w : World) (h : Bdr w b l) (hl : l.length = 1024) : Calls Try.prog 33 #[.pointer (some ⟨b, 0, none⟩), (eB 16).v x] w fun e w' => e = .returned (.int .i64 9) ∧ Fr0 w w' := by
  have hc := (h.fr0 ((Fr.refl (fun _ => False) w).newE (eB 16) 27 x)).cnt
  rw [hl] at hc
  clear h
  go_enter Try.func33, Try.ntmps33
  go_wp2_with fail
  go_ret
  exact ⟨rfl, (Fr.refl _ _).newE _ _ _⟩
set_option maxHeartbeats 2000000 in
theorem add_any (b : Nat) (l : List Nd) (x : Nd) (w : World) (h : Bdr w b l) (hl : l.length < 1024) : Calls Try.prog 33 #[.pointer (some ⟨b, 0, none⟩), (eB 16).v x] w fun e w' => e = .returned (.int .i64 0) ∧ Bdr w' b (l ++ [x]) ∧ Fr1 b w w' := by
  obtain ⟨wB, HW⟩ := nm ((eB 16).new 27 w x)
  have HB := Lib.hid (show Bdr wB b l by rw [HW.out]; exact h.fr0 ((Fr.refl (fun _ => False) w).newE (eB 16) 27 x))
  have HFB := Lib.hid (show Fr0 w wB by rw [HW.out]; exact (Fr.refl _ _).newE _ _ _)
  have hat0 : (eB 16).at_ wB w.heap.size 0 = some x := by rw [HW.out]; simp
  have hok0 : okA wB w.heap.size 0 16 = true := by rw [HW.out]; simp
  have HLT := Lib.hid hl
  obtain ⟨n, HN⟩ := nm l.length
  have hn : n < 1024 := by rw [HN.out]; exact hl
  have hbw := h.lt
  obtain ⟨g, HG⟩ := nm w.heap.size
  rw [← HG.out] at hbw hat0 hok0
  have hc := HB.out.cnt
  rw [← HN.out] at hc
  have z0 : ((n : Int) == 1024) = false := by simp; omega
  clear h hl
  go_enter Try.func33, Try.ntmps33
  have hc0 : ((eB 16).new 27 w x).cell? ⟨b, 176, none⟩ = some (.int .i64 (n : Int)) := by rw [← HW.out]; exact hc
  go_wp2_with fail
  rw [← HW.out, ← HG.out]
  clear hc0 HW
  have hgB := (eB 16).at_lt hat0
  go_loopw [5] (fun v wr => ∃ (k : Nat) (a : Nd), v = .int .i64 (k : Int) ∧ k ≤ 10 ∧ okA wr g 0 16 = true ∧ (eB 16).at_ wr g 0 = some a ∧ RowKit.Hid (a = Mk.node jn (l ++ [x]) k (n >>> k)) ∧ RowKit.Hid (∀ j, j < k → Mk.bit n j = true) ∧ RowKit.Hid (Fr1 g wB wr)) (fun v _ => 11 - (intOf v).toNat)
  case atStart => exact ⟨0, x, rfl, by omega, hok0, hat0, Lib.hid (by rw [HN.out, Mk.node]; simp [List.getD]), Lib.hid (fun j hj => by omega), Lib.hid (Fr.refl _ _)⟩
  case round =>
    clear hat0 hok0 hc z0
    obtain ⟨k, a, rfl, hk, hok, ha, HA, HLO, HF⟩ := hrel
    have HBR := Lib.hid (HB.out.fr HF.out (by omega))
    have hc := HBR.out.cnt
    rw [← HN.out] at hc
    have hgr := (eB 16).at_lt ha
    have hbr := HBR.out.lt
    have hshr := shr_nat n k (by omega)
    have hshr2 := shr_nat2 n k
    have hjm : n >>> k ≤ n := by rw [Nat.shiftRight_eq_div_pow]; exact Nat.div_le_self _ _
    obtain ⟨j, HJ⟩ := nm (n >>> k)
    rw [← HJ.out] at hshr hshr2 hjm
    have hand := bits_and1 (n := j) (by omega)
    rcases Nat.mod_two_eq_zero_or_one j with hb | hb
    · rw [hb] at hand
      have hbit : Mk.bit n k = false := by unfold Mk.bit; rw [← HJ.out, hb]; rfl
      have HN2 := Lib.hid (show ∀ v : Int, v = (n : Int) + 1 → Bdr (((eB 16).put wr.drew b (k * 16) a).setCell ⟨b, 176, none⟩ (.int .i64 v)) b (l ++ [x]) by
        intro v hv
        have := (show Bdr wr.drew b l from HBR.out.fr0 (Fr.drew (Fr.refl _ _))).add x HLT.out k (by omega) (by rw [← HN.out]; exact HLO.out) (by rw [← HN.out]; exact hbit) v (by rw [← HN.out]; exact hv)
        rw [HA.out, HN.out]; exact this)
      have hbok := HBR.out.oks k (by omega)
      have hc2 : ((eB 16).put wr.drew b (k * 16) a).cell? ⟨b, 176, none⟩ = some (.int .i64 (n : Int)) := by
        obtain ⟨_, cs, hB, h2, h3, _⟩ := HBR.out
        have hsz := (eB 16).size a
        show (putW wr.drew b (k * 16) _).cell? _ = _
        rw [(Blk.put (w := wr.drew) hB (k * 16) ((eB 16).f a).toArray).cell, putAt_get _ _ _ (by rw [hsz]; omega), if_neg (by omega), if_neg (by rw [hsz]; omega), h3, HN.out]
      have hz2 : ((eB 16).put wr.drew b (k * 16) a).frozen? ⟨b, 176, none⟩ = false := by
        obtain ⟨_, cs, hB, _⟩ := HBR.out
        exact (Blk.put (w := wr.drew) hB (k * 16) ((eB 16).f a).toArray).frozen 176
      have z1 : (k : Int) < 11 := by omega
      have z2 : (n : Int) + 1 ≤ 1024 := by omega
      have hbg : b ≠ g := by omega
      clear hbit
      go_wp2_with fail
      go_region
      go_wp2_with fail
      go_ret
      have hfr : Fr1 b w wr.drew := (HFB.out.of0.then_ HF.out (fun i hi e => by have := HG.out; omega)).drew
      exact ⟨rfl, HN2.out _ (by go_num), (hfr.putE (eB 16) (fun _ => rfl) (k * 16) a).setCell (p := ⟨b, 176, none⟩) (fun _ => rfl) _⟩
    · rw [hb] at hand
      have hbit : Mk.bit n k = true := by unfold Mk.bit; rw [← HJ.out, hb]; rfl
      have hk10 : k < 10 := by
        rcases Nat.lt_or_ge k 10 with h | h
        · exact h
        · obtain rfl : k = 10 := by omega
          rw [bit_big hn] at hbit; cases hbit
      have hat := HBR.out.row k (by omega) (by rw [← HN.out]; exact hbit)
      have HP := Lib.hid (show joinY ((k : Int) + 1) (Mk.pnode jn l l.length k) a = Mk.node jn (l ++ [x]) (k + 1) (n >>> (k + 1)) by
        have := add_step l x k (by rw [← HN.out]; exact hbit)
        rw [HA.out, HN.out]; exact this)
      have HLO2 := Lib.hid (show ∀ j, j < k + 1 → Mk.bit n j = true from fun j hj => by
        rcases Nat.lt_or_ge j k with h | h
        · exact HLO.out j h
        · obtain rfl : j = k := by omega
          exact hbit)
      obtain ⟨r, HR⟩ := nm (Mk.pnode jn l l.length k)
      rw [← HR.out] at hat HP
      have z1 : (k : Int) < 11 := by omega
      clear hbit
      go_wp2_with fail
      refine reg_start (by kernel_rfl) ?_
      refine reg_uno (D := [some 21, some 22, some 23, some 24, some 25, some 26, some 27, some 28, some 29, some 30, none]) (J := [0, 1, 2, 3, 4, 5, 6, 7, 8]) 9 [] [PV (.int .i64 (k : Int)), PV (.int .i64 ((k : Int) + 1)), PV (.pointer (some ⟨b, 0, none⟩)), PV (.int .i64 (k : Int)), PV (.pointer (some ⟨b, 0, none⟩)), PV (.pointer (some ⟨b, 0, none⟩)), PV (.pointer (some ⟨b, k * 16, none⟩)), PV ((eB 16).v r), PV ((eB 16).v a)] TT33 (by kernel_rfl) (by kernel_rfl) (by kernel_rfl) rfl rfl rfl
        (stab_cons (PV.stab _) (stab_cons (PV.stab _) (stab_cons (PV.stab _) (stab_cons (PV.stab _) (stab_cons (PV.stab _) (stab_cons (PV.stab _) (stab_cons (PV.stab _) (stab_cons (PV.stab _) (stab_cons (PV.stab _) stab_nil)))))))))
        (fun v => usteps_cons ?_ (usteps_cons ?_ (usteps_cons ?_ (usteps_cons ?_ (usteps_cons ?_ (usteps_cons ?_ (usteps_cons ?_ (usteps_cons ?_ (usteps_cons ?_ (usteps_nil)))))))))) (fun v wx hx hP hA => ?_)
      · refine ustep_mk (D := [some 21, some 22, some 23, some 24, some 25, some 26, some 27, some 28, some 29, some 30, none]) (Ti := []) rfl rfl rfl rfl (fun wx hx hP => ?_)   -- 0: move (tmp 5)
        clear hP
        simp only [putD, List.getD_cons_zero, List.getD_cons_succ]
        go_wp2_with fail
        exact Q1.mk rfl _ rfl ⟨Fr.refl _ _, rfl, frok_no rfl⟩
      · refine ustep_mk (D := [some 21, some 22, some 23, some 24, some 25, some 26, some 27, some 28, some 29, some 30, none]) (Ti := [0]) rfl rfl rfl rfl (fun wx hx hP => ?_)   -- 1: binOp Binadd 3 (tmp 21) (const (Value.int IntKind.
        have h0 : v 0 = .int .i64 (k : Int) := hP.1
        clear hP
        simp only [putD, List.getD_cons_zero, List.getD_cons_succ]
        go_wp2_with fail
        exact Q1.mk rfl _ rfl ⟨Fr.refl _ _, rfl, frok_no rfl⟩
      · refine ustep_mk (D := [some 21, some 22, some 23, some 24, some 25, some 26, some 27, some 28, some 29, some 30, none]) (Ti := []) rfl rfl rfl rfl (fun wx hx hP => ?_)   -- 2: move (tmp 0)
        clear hP
        simp only [putD, List.getD_cons_zero, List.getD_cons_succ]
        go_wp2_with fail
        exact Q1.mk rfl _ rfl ⟨Fr.refl _ _, rfl, frok_no rfl⟩
      · refine ustep_mk (D := [some 21, some 22, some 23, some 24, some 25, some 26, some 27, some 28, some 29, some 30, none]) (Ti := []) rfl rfl rfl rfl (fun wx hx hP => ?_)   -- 3: move (tmp 5)
        clear hP
        simp only [putD, List.getD_cons_zero, List.getD_cons_succ]
        go_wp2_with fail
        exact Q1.mk rfl _ rfl ⟨Fr.refl _ _, rfl, frok_no rfl⟩
      · refine ustep_mk (D := [some 21, some 22, some 23, some 24, some 25, some 26, some 27, some 28, some 29, some 30, none]) (Ti := [2]) rfl rfl rfl rfl (fun wx hx hP => ?_)   -- 4: nilCheck (tmp 23)
        have h2 : v 2 = .pointer (some ⟨b, 0, none⟩) := hP.1
        clear hP
        simp only [putD, List.getD_cons_zero, List.getD_cons_succ]
        go_wp2_with fail
        exact Q1.mk rfl _ rfl ⟨Fr.refl _ _, rfl, frok_no rfl⟩
      · refine ustep_mk (D := [some 21, some 22, some 23, some 24, some 25, some 26, some 27, some 28, some 29, some 30, none]) (Ti := [2, 4]) rfl rfl rfl rfl (fun wx hx hP => ?_)   -- 5: fieldAddr 72 (tmp 25) 0
        have h2 : v 2 = .pointer (some ⟨b, 0, none⟩) := hP.1
        have h4 : v 4 = .pointer (some ⟨b, 0, none⟩) := hP.2.1
        clear hP
        simp only [putD, List.getD_cons_zero, List.getD_cons_succ]
        go_wp2_with fail
        exact Q1.mk rfl _ rfl ⟨Fr.refl _ _, rfl, frok_no rfl⟩
      · refine ustep_mk (D := [some 21, some 22, some 23, some 24, some 25, some 26, some 27, some 28, some 29, some 30, none]) (Ti := [2, 3, 4, 5]) rfl rfl rfl rfl (fun wx hx hP => ?_)   -- 6: indexAddr 70 (tmp 26) (tmp 24)
        have h2 : v 2 = .pointer (some ⟨b, 0, none⟩) := hP.1
        have h3 : v 3 = .int .i64 (k : Int) := hP.2.1
        have h4 : v 4 = .pointer (some ⟨b, 0, none⟩) := hP.2.2.1
        have h5 : v 5 = .pointer (some ⟨b, 0, none⟩) := hP.2.2.2.1
        clear hP
        simp only [putD, List.getD_cons_zero, List.getD_cons_succ]
        go_wp2_with fail
        exact Q1.mk rfl _ rfl ⟨Fr.refl _ _, rfl, frok_no rfl⟩
      · refine ustep_mk (D := [some 21, some 22, some 23, some 24, some 25, some 26, some 27, some 28, some 29, some 30, none]) (Ti := [2, 3, 4, 5, 6]) rfl rfl rfl rfl (fun wx hx hP => ?_)   -- 7: load 27 (tmp 27)
        have h2 : v 2 = .pointer (some ⟨b, 0, none⟩) := hP.1
        have h3 : v 3 = .int .i64 (k : Int) := hP.2.1
        have h4 : v 4 = .pointer (some ⟨b, 0, none⟩) := hP.2.2.1
        have h5 : v 5 = .pointer (some ⟨b, 0, none⟩) := hP.2.2.2.1
        have h6 : v 6 = .pointer (some ⟨b, k * 16, none⟩) := hP.2.2.2.2.1
        have hld := ((eB 16).at_fr hx _ _ hbr).trans hat
        clear hP
        simp only [putD, List.getD_cons_zero, List.getD_cons_succ]
        go_wp2_with fail
        exact Q1.mk rfl _ rfl ⟨Fr.refl _ _, rfl, frok_no rfl⟩
      · refine ustep_mk (D := [some 21, some 22, some 23, some 24, some 25, some 26, some 27, some 28, some 29, some 30, none]) (Ti := []) rfl rfl rfl rfl (fun wx hx hP => ?_)   -- 8: load 27 (tmp 3)
        have hld := ((eB 16).at_fr hx _ _ hgr).trans ha
        clear hP
        simp only [putD, List.getD_cons_zero, List.getD_cons_succ]
        go_wp2_with fail
        exact Q1.mk rfl _ rfl ⟨Fr.refl _ _, rfl, frok_no rfl⟩
      have h0 : v 0 = .int .i64 (k : Int) := hP.1
      have h1 : v 1 = .int .i64 ((k : Int) + 1) := hP.2.1
      have h2 : v 2 = .pointer (some ⟨b, 0, none⟩) := hP.2.2.1
      have h3 : v 3 = .int .i64 (k : Int) := hP.2.2.2.1
      have h4 : v 4 = .pointer (some ⟨b, 0, none⟩) := hP.2.2.2.2.1
      have h5 : v 5 = .pointer (some ⟨b, 0, none⟩) := hP.2.2.2.2.2.1
      have h6 : v 6 = .pointer (some ⟨b, k * 16, none⟩) := hP.2.2.2.2.2.2.1
      have h7 : v 7 = (eB 16).v r := hP.2.2.2.2.2.2.2.1
      have h8 : v 8 = (eB 16).v a := hP.2.2.2.2.2.2.2.2.1
      have f1 : Fr0 wr wx := (Fr.drew (Fr.refl _ _)).trans hx
      clear hx hA
      clear hP
      simp only [putD, List.getD_cons_zero, List.getD_cons_succ]
      refine reg_seq' 46 2 TT33 (by kernel_rfl) (by kernel_rfl) ?_
      simp only [List.drop_succ_cons, List.drop_zero, List.take_succ_cons, List.take_zero]
      go_wp2_with fail
      refine (join_any ((k : Int) + 1) r a wx).mono ?_
      rintro e w5 ⟨rfl, hf5⟩
      have HF5 := Lib.hid (HF.out.trans (f1.trans hf5).of0)
      have ok5 : okA w5 g 0 16 = true := by rw [okA_fr (f1.trans hf5) _ _ _ hgr]; exact hok
      clear hf5 f1
      go_wp2_with fail
      refine QR.mk ?_
      refine reg_end (by decide) ?_
      go_wp2_with fail
      go_roundw
      case rel => exact ⟨k + 1, _, by go_num, by omega, by rw [(eB 16).okA_put ok5]; exact ok5, (eB 16).at_put ok5, HP, HLO2, Lib.hid (HF5.out.putE (eB 16) (fun _ => rfl) _ _)⟩
      case measure => simp [intOf]; omega
end Go.Proofs.Ytnholkjgdpapbaa
