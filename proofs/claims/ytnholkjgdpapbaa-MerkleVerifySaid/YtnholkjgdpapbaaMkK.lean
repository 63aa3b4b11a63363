/- Chapter 06: MerkleVerify: the walk. No condition. -/
import Derived.Test.YtnholkjgdpapbaaMkJ
import Derived.Deep.RegionWith
import Derived.Deep.CutRange
namespace Go.Proofs.Ytnholkjgdpapbaa
set_option linter.unusedVariables false
set_option linter.unusedSimpArgs false
set_option maxRecDepth 10000
open Go.RowKit
attribute [local go_sem ↓] Go.wp_at_zero Go.wp_at_succ

namespace Enc
variable {α : Type} {n : Nat} (E : Enc α n) {w : World}
@[simp] theorem cell_newOld (T : TypeId) (a : α) (b o : Nat) (h : b < w.heap.size) : (E.new T w a).cell? ⟨b, o, none⟩ = w.cell? ⟨b, o, none⟩ := World.cell?_alloc_lt _ _ _ h
@[simp] theorem cell_putFar (a : α) (b o b' o' : Nat) (h : b ≠ b') : (E.put w b' o' a).cell? ⟨b, o, none⟩ = w.cell? ⟨b, o, none⟩ := World.cell?_of_block (w := w) (putW_heap_other w b' o' _ b h)
theorem okOwn {T : TypeId} {d : α} {w w' : World} (h : Fr0 (E.new T w d) w') : w.heap.size < w'.heap.size ∧ okA w' w.heap.size 0 n = true :=
  ⟨Nat.lt_of_lt_of_le (by simp) h.size, by rw [okA_fr h _ _ _ (by simp)]; simp⟩
theorem okOwnD {T : TypeId} {d : α} {w w' : World} (h : Fr0 (E.new T w.drew d) w') : w.heap.size < w'.heap.size ∧ okA w' w.heap.size 0 n = true := okOwn E (w := w.drew) h
end Enc
/-- A claim: an index, a leaf, a path's slice. -/
abbrev ClM : Type := Int × Nd × Sv
def eC : Enc ClM 18 := eP (eI .i64) (eP (eB 16) eS)
@[go_sem ↓] theorem ex_bx_claim (ρ : Operand → Value) (dst : Option Tmp) (x : Operand) (ty : TypeId) (pos : String) (aft : Array Edge) (gd : Option (Nat × Bool)) :
    execOp ρ ⟨dst, .box 35 x, ty, pos, aft, gd⟩ = (do pure (.value (← bx 35 (ρ x)))) := rfl
@[go_sem] theorem run_bx_claim (w : World) (a : ClM) : (bx 35 (eC.v a)).run Try.prog w = .ok (.pointer (some ⟨w.heap.size, 0, none⟩)) (eC.new 35 w a) := run_bxE eC w _ a
theorem eC_at {w : World} {b : Nat} {a : ClM} (h : eC.at_ w b 0 = some a) : w.cell? ⟨b, 0, none⟩ = some (.int .i64 a.1) ∧ (eB 16).at_ w b 1 = some a.2.1 ∧ w.cell? ⟨b, 17, none⟩ = some (.slice a.2.2.1 a.2.2.2.1 a.2.2.2.2) := by
  obtain ⟨h1, h2⟩ := eP_at h
  obtain ⟨h3, h4⟩ := eP_at h2
  refine ⟨?_, ?_, ?_⟩
  · have := ldA_cell ((eI .i64).ldA_of h1) (i := 0) (by omega)
    exact this
  · exact h3
  · exact eS_cell h4

def TT616 : List (List Nat) := [[], [], [], [], [3], [0, 1, 2, 3, 4], [], [6], [0, 1, 2, 3, 4, 5, 6, 7], [0, 1, 2, 3, 4, 5, 6, 7, 8], [0, 1, 2, 3, 4, 5, 6, 7, 8], [0, 1, 2, 3, 4, 5, 6, 7, 8, 9, 10], [0, 1, 2, 3, 4, 5, 6, 7, 8, 9, 10, 11], [0, 1, 2, 3, 4, 5, 6, 7, 8, 9, 10, 11, 12], [0, 1, 2, 3, 4, 5, 6, 7, 8, 9, 10, 11, 12, 13]]
def TT6 : List (List Nat) := [[], [0], [0, 1], [0, 1, 2], [0, 1, 2], [0, 1, 2], [0, 1, 2, 4, 5], [0, 1, 2, 4, 5, 6], [0, 1, 2], [0, 1, 2], [0, 1, 2, 3, 4, 5, 6, 7, 8, 9], [0, 1, 2, 3, 4, 5, 6, 7, 8, 9, 10], [0, 1, 2, 3, 4, 5, 6, 7, 8, 9, 10, 11]]

def PR (p : List Nd) (M : Nat) : Value → World → Prop := fun u w => ∃ A c, u = .slice A M c ∧ (eB 16).Rds w w.heap.size (.slice A M c) p
theorem PR.stab (p : List Nd) (M : Nat) : ∀ u w w', Fr (fun _ => False) w w' → PR p M u w → PR p M u w' := fun _ _ _ h ⟨A, c, h1, h2⟩ => ⟨A, c, h1, (h2.fr0 h).mono h.size⟩
/-- Every leaf of a tree is verified by its path. -/
theorem verify_all (l : List Nd) (hc : chkN l.length = 0) (k : Nat) (y : Nd) (hy : l[k]? = some y) : (pathR l (k : Int)).2 = 0 ∧ verifyY (rootY l) y (k : Int) (pathR l (k : Int)).1 = true := by
  obtain ⟨h, hp, hl, hh⟩ := chk_ok hc
  have hk : k < l.length := (List.getElem?_eq_some_iff.1 hy).1
  have hP : pathR l (k : Int) = (pathY l k h, 0) := by
    unfold pathR
    rw [if_pos hc, if_pos ⟨by omega, by omega⟩, hp]; rfl
  have hR : rootY l = nodeY l h 0 := by unfold rootY; rw [if_pos hc, hp]; rfl
  rw [hP, hR]
  refine ⟨rfl, ?_⟩
  have hlen : (pathY l k h).length = h := Mk.pathN_length jn l k h
  have hE : fromE h (k : Int) = 0 := by
    unfold fromE
    rw [if_neg (by omega), if_pos ⟨by omega, by rw [← hl]; omega⟩]
  unfold verifyY fromY
  simp only [hlen]
  rw [hE, if_pos rfl, Int.toNat_natCast]
  have hat := Mk.atN_path jn l k h h (Nat.le_refl h)
  have h0 : k >>> h = 0 := by rw [Nat.shiftRight_eq_div_pow]; exact Nat.div_eq_of_lt (by omega)
  have hg : l.getD k default = y := by simp [List.getD, hy]
  rw [hg, h0] at hat
  simp only [decide_true, Bool.true_and, decide_eq_true_eq]
  exact hat

set_option maxHeartbeats 4000000 in
theorem verify_walk (l : List Nd) (A : Option Addr) (c : Nat) (i : Int) (x : Nd) (p : List Nd) (A' : Option Addr) (c' : Nat) (w : World) (ha : Arg w w.heap.size A l.length c 16 (l.flatMap (eB 16).f)) (hp : Arg w w.heap.size A' p.length c' 16 (p.flatMap (eB 16).f)) :
    Calls Try.prog 6 #[.slice A l.length c, eC.v (i, x, (A', p.length, c'))] w fun e w' => e = .returned (.bool true) ∧ Below w.heap.size w w' := by
  have HR := Lib.hid (And.intro (Arg.rds (E := eB 16) (by omega) ha) (Arg.rds (E := eB 16) (by omega) hp))
  clear ha hp
  obtain ⟨L, HL⟩ := nm l.length
  obtain ⟨M, HM⟩ := nm p.length
  rw [← HL.out, ← HM.out] at HR ⊢
  obtain ⟨h0, h1, h2⟩ := eC_at (eC.at_new (w := w) 35 (i, x, (A', M, c')))
  obtain ⟨w1, HW1⟩ := nm ((eB 16).new 24 (eC.new 35 w (i, x, A', M, c')).drew x)
  have hF1 : Fr0 w w1 := by rw [HW1.out]; exact ((Fr.refl (fun _ => False) w).newE _ _ _).drew.newE _ _ _
  have a5 : (eB 16).at_ w1 (w.heap.size + 1) 0 = some x := by rw [HW1.out]; simp
  have H1 := Lib.hid (And.intro hF1 a5)
  clear hF1 a5
  by_cases hbig : 64 < L ∨ 20 < M
  · have fin : True := trivial
    by_cases hb1 : 64 < L
    · have z0 : (64 : Int) < (L : Int) := by omega
      go_enter Try.func6, Try.ntmps6
      go_wp2_with fail
      go_region
      go_wp2_with fail
      rw [← HW1.out]
      refine (known_any _).mono ?_
      rintro e w2 ⟨rfl, hf⟩
      have HF2 := Lib.hid (H1.out.1.trans hf)
      clear hf
      go_wp2_with fail
      refine (known_any _).mono ?_
      rintro e w3 ⟨rfl, hf⟩
      have HF3 := Lib.hid (HF2.out.trans hf)
      clear hf
      go_wp2_with fail
      go_ret
      exact ⟨rfl, Fr0.below HF3.out⟩
    · have z0 : ¬ (64 : Int) < (L : Int) := by omega
      have z1 : (20 : Int) < (M : Int) := by omega
      go_enter Try.func6, Try.ntmps6
      go_wp2_with fail
      go_region
      go_wp2_with fail
      rw [← HW1.out]
      refine (known_any _).mono ?_
      rintro e w2 ⟨rfl, hf⟩
      have HF2 := Lib.hid (H1.out.1.trans hf)
      clear hf
      go_wp2_with fail
      refine (known_any _).mono ?_
      rintro e w3 ⟨rfl, hf⟩
      have HF3 := Lib.hid (HF2.out.trans hf)
      clear hf
      go_wp2_with fail
      go_ret
      exact ⟨rfl, Fr0.below HF3.out⟩
  · have z0 : ¬ (64 : Int) < (L : Int) := by omega
    have z1 : ¬ (20 : Int) < (M : Int) := by omega
    clear hbig
    go_enter Try.func6, Try.ntmps6
    go_wp2_with fail
    go_region
    go_wp2_with fail
    rw [← HW1.out]
    clear h0 h1 h2 HW1
    refine (known_any _).mono ?_
    rintro e w2 ⟨rfl, hf⟩
    have HF2 := Lib.hid (H1.out.1.trans hf)
    have a2 := ((eB 16).at_fr hf _ _ ((eB 16).at_lt H1.out.2)).trans H1.out.2
    have H2 := Lib.hid a2
    clear hf a2
    go_wp2_with fail
    refine (own_any l _ A L c _ (HR.out.1.fr0 HF2.out) (by omega)).mono ?_
    rintro e w3 ⟨Ao, co, rfl, ho, hf⟩
    have HO := Lib.hid (ho.rds (by omega))
    have HF3 := Lib.hid (And.intro (HF2.out.trans hf) (((eB 16).at_fr hf _ _ ((eB 16).at_lt H2.out)).trans H2.out))
    clear ho hf
    go_wp2_with fail
    refine (mroot_any l _ Ao L co _ HO.out (by omega)).mono ?_
    rintro e w4 ⟨rfl, hf⟩
    have HVR := Lib.hid (verify_all l)
    obtain ⟨FY, HFY⟩ := nm (fromY x i p)
    obtain ⟨FE, HFE⟩ := nm (fromE M i)
    obtain ⟨RT, HRT⟩ := nm (rootY l)
    obtain ⟨E, HE⟩ := nm (chkN L)
    rw [← HRT.out, ← HE.out]
    obtain ⟨wB, HB⟩ := nm ((eB 16).new 27 w4 RT)
    have hFB : Fr0 w3 wB := by rw [HB.out]; exact hf.newE _ _ _
    have har : (eB 16).at_ wB w4.heap.size 0 = some RT := by rw [HB.out]; simp
    have HBB := Lib.hid (And.intro hFB har)
    have hs4 := Lib.hid (show w.heap.size < w4.heap.size by have := hf.size; have := HF3.out.1.size; have := (eB 16).at_lt HF3.out.2; omega)
    clear hf hFB har
    go_wp2_with fail
    rw [← HB.out]
    clear HB
    obtain ⟨gr, HGR⟩ := nm w4.heap.size
    rw [← HGR.out] at HBB hs4 ⊢
    obtain ⟨q1, q2⟩ := HO.out.cap
    unfold maxLen at q2
    go_loopw [11, 12, 13] (fun v _ _ wr => ∃ k : Nat, v = .int .i64 (k : Nat) ∧ k ≤ L ∧ RowKit.Hid (Fr0 wB wr)) (fun v _ _ _ => L - (intOf v).toNat)
    case atStart => exact ⟨0, rfl, by omega, Lib.hid (Fr.refl _ _)⟩
    case round =>
      obtain ⟨k, rfl, hk, HF⟩ := hrel
      by_cases hlt : k < L ∧ E = 0
      · obtain ⟨hlt, rfl⟩ := hlt
        have z2 : (k : Int) < (L : Int) := by omega
        obtain ⟨y, hy⟩ : ∃ y, l[k]? = some y := ⟨_, List.getElem?_eq_getElem (by have := HL.out; omega)⟩
        obtain ⟨bo, oo, rfl, _, hbo3, hx⟩ := HO.out.atq (by have := HL.out; omega)
        have HVK0 := HVR.out (by rw [← HL.out]; exact HE.out.symm) k y hy
        have HXY := Lib.hid (hx k y hy)
        clear hx hy
        go_wp2_with fail
        refine (mpath_any l (k : Int) _ (some ⟨bo, oo, none⟩) L co wr (HO.out.fr0 (HBB.out.1.trans HF.out))).mono ?_
        rintro e w5 ⟨A3, c3, rfl, ho, hf⟩
        obtain ⟨hv1, hv2⟩ := HVK0
        rw [hv1]
        obtain ⟨PK, HPK⟩ := nm (pathR l (k : Int)).1
        rw [← HPK.out, ← HRT.out] at hv2
        rw [← HPK.out] at ho ⊢
        obtain ⟨M3, HM3⟩ := nm PK.length
        rw [← HM3.out] at ho ⊢
        have HVK := Lib.hid hv2
        have HO5 := Lib.hid (ho.rds (by omega))
        have HF5 := Lib.hid (HF.out.trans hf)
        have hay := ((eB 16).at_fr (HBB.out.1.trans HF5.out) _ _ hbo3).trans HXY.out
        have hbo := (eB 16).at_lt hay
        have har := ((eB 16).at_fr HF5.out _ _ ((eB 16).at_lt HBB.out.2)).trans HBB.out.2
        have hgr := (eB 16).at_lt har
        clear hv1 hv2 ho hf
        go_wp2_with fail
        refine reg_start (by kernel_rfl) ?_
        refine reg_seq' 112 3 TT6 (by kernel_rfl) (by kernel_rfl) ?_
        simp only [List.drop_succ_cons, List.drop_zero, List.take_succ_cons, List.take_zero]
        go_wp2_with fail
        refine QR.mk ?_
        refine reg_uno (D := [some 61, some 62, some 63, some 64, some 65, some 66, some 67, some 68, some 69, some 70, some 71, some 72, some 73]) (J := [3, 4, 5, 6, 7, 8, 9]) 10 [] [PV ((eB 16).v RT), PV (.slice (some ⟨bo, oo, none⟩) L co), PV (.int .i64 (k : Int)), PV (.pointer (some ⟨bo, oo + k * 16, none⟩)), PV ((eB 16).v y), PV (.int .i64 (k : Int)), PV (.slice A3 M3 c3)] TT6 (by kernel_rfl) (by kernel_rfl) (by kernel_rfl) rfl rfl rfl
          (stab_cons (PV.stab _) (stab_cons (PV.stab _) (stab_cons (PV.stab _) (stab_cons (PV.stab _) (stab_cons (PV.stab _) (stab_cons (PV.stab _) (stab_cons (PV.stab _) stab_nil)))))))
          (fun v => usteps_cons ?_ (usteps_cons ?_ (usteps_cons ?_ (usteps_cons ?_ (usteps_cons ?_ (usteps_cons ?_ (usteps_cons ?_ (usteps_nil)))))))) (fun v wx hx hP hA => ?_)
        · refine ustep_mk (D := [some 61, some 62, some 63, some 64, some 65, some 66, some 67, some 68, some 69, some 70, some 71, some 72, some 73]) (Ti := []) rfl rfl rfl rfl (fun wx hx hP => ?_)   -- 3: load 27 (tmp 9)
          have hld := ((eB 16).at_fr ((Fr.drew (Fr.refl _ _)).trans hx) _ _ hgr).trans har
          clear hP
          simp only [putD, List.getD_cons_zero, List.getD_cons_succ]
          go_wp2_with fail
          exact Q1.mk rfl _ rfl ⟨Fr.refl _ _, rfl, frok_no rfl⟩
        · refine ustep_mk (D := [some 61, some 62, some 63, some 64, some 65, some 66, some 67, some 68, some 69, some 70, some 71, some 72, some 73]) (Ti := []) rfl rfl rfl rfl (fun wx hx hP => ?_)   -- 4: move (tmp 8)
          clear hP
          simp only [putD, List.getD_cons_zero, List.getD_cons_succ]
          go_wp2_with fail
          exact Q1.mk rfl _ rfl ⟨Fr.refl _ _, rfl, frok_no rfl⟩
        · refine ustep_mk (D := [some 61, some 62, some 63, some 64, some 65, some 66, some 67, some 68, some 69, some 70, some 71, some 72, some 73]) (Ti := []) rfl rfl rfl rfl (fun wx hx hP => ?_)   -- 5: move (tmp 11)
          clear hP
          simp only [putD, List.getD_cons_zero, List.getD_cons_succ]
          go_wp2_with fail
          exact Q1.mk rfl _ rfl ⟨Fr.refl _ _, rfl, frok_no rfl⟩
        · refine ustep_mk (D := [some 61, some 62, some 63, some 64, some 65, some 66, some 67, some 68, some 69, some 70, some 71, some 72, some 73]) (Ti := [4, 5]) rfl rfl rfl rfl (fun wx hx hP => ?_)   -- 6: indexAddr 41 (tmp 65) (tmp 66)
          have h4 : v 4 = .slice (some ⟨bo, oo, none⟩) L co := hP.1
          have h5 : v 5 = .int .i64 (k : Int) := hP.2.1
          clear hP
          simp only [putD, List.getD_cons_zero, List.getD_cons_succ]
          go_wp2_with fail
          exact Q1.mk rfl _ rfl ⟨Fr.refl _ _, rfl, frok_no rfl⟩
        · refine ustep_mk (D := [some 61, some 62, some 63, some 64, some 65, some 66, some 67, some 68, some 69, some 70, some 71, some 72, some 73]) (Ti := [4, 5, 6]) rfl rfl rfl rfl (fun wx hx hP => ?_)   -- 7: load 27 (tmp 67)
          have h4 : v 4 = .slice (some ⟨bo, oo, none⟩) L co := hP.1
          have h5 : v 5 = .int .i64 (k : Int) := hP.2.1
          have h6 : v 6 = .pointer (some ⟨bo, oo + k * 16, none⟩) := hP.2.2.1
          have hld := ((eB 16).at_fr ((Fr.drew (Fr.refl _ _)).trans hx) _ _ hbo).trans hay
          clear hP
          simp only [putD, List.getD_cons_zero, List.getD_cons_succ]
          go_wp2_with fail
          exact Q1.mk rfl _ rfl ⟨Fr.refl _ _, rfl, frok_no rfl⟩
        · refine ustep_mk (D := [some 61, some 62, some 63, some 64, some 65, some 66, some 67, some 68, some 69, some 70, some 71, some 72, some 73]) (Ti := []) rfl rfl rfl rfl (fun wx hx hP => ?_)   -- 8: move (tmp 11)
          clear hP
          simp only [putD, List.getD_cons_zero, List.getD_cons_succ]
          go_wp2_with fail
          exact Q1.mk rfl _ rfl ⟨Fr.refl _ _, rfl, frok_no rfl⟩
        · refine ustep_mk (D := [some 61, some 62, some 63, some 64, some 65, some 66, some 67, some 68, some 69, some 70, some 71, some 72, some 73]) (Ti := []) rfl rfl rfl rfl (fun wx hx hP => ?_)   -- 9: move (tmp 12)
          clear hP
          simp only [putD, List.getD_cons_zero, List.getD_cons_succ]
          go_wp2_with fail
          exact Q1.mk rfl _ rfl ⟨Fr.refl _ _, rfl, frok_no rfl⟩
        have h3 : v 3 = (eB 16).v RT := hP.1
        have h4 : v 4 = .slice (some ⟨bo, oo, none⟩) L co := hP.2.1
        have h5 : v 5 = .int .i64 (k : Int) := hP.2.2.1
        have h6 : v 6 = .pointer (some ⟨bo, oo + k * 16, none⟩) := hP.2.2.2.1
        have h7 : v 7 = (eB 16).v y := hP.2.2.2.2.1
        have h8 : v 8 = .int .i64 (k : Int) := hP.2.2.2.2.2.1
        have h9 : v 9 = .slice A3 M3 c3 := hP.2.2.2.2.2.2.1
        have f1 : Fr0 w5 wx := (Fr.drew (Fr.refl _ _)).trans hx
        clear hx hA
        clear hP
        simp only [putD, List.getD_cons_zero, List.getD_cons_succ]
        refine reg_seq' 112 3 TT6 (by kernel_rfl) (by kernel_rfl) ?_
        simp only [List.drop_succ_cons, List.drop_zero, List.take_succ_cons, List.take_zero]
        go_wp2_with fail
        refine (verify_any RT y (k : Int) PK _ A3 M3 c3 _ (HO5.out.fr0 f1) f1.size).mono ?_
        rintro e w6 ⟨rfl, hf6⟩
        rw [HVK.out]
        have HF6 := Lib.hid (HF5.out.trans (f1.trans hf6))
        clear hf6 f1
        go_wp2_with fail
        refine QR.mk ?_
        refine reg_end (by decide) ?_
        go_wp2_with fail
        go_roundw
        case rel =>
          first
          | exact ⟨k + 1, by go_num, by omega, HF6⟩
          | ((repeat apply Exists.intro); exact ⟨⟨k + 1, by go_num, by omega, HF6⟩, rfl⟩)
        case measure => simp [intOf]; omega
      · by_cases hkL : k < L
        · have z2 : (k : Int) < (L : Int) := by omega
          have hE0 : (E == 0) = false := by simpa using fun h => hlt ⟨hkL, h⟩
          clear hlt
          have hfw : Fr0 w3 wr := HBB.out.1.trans HF.out
          have h5x := ((eB 16).at_fr hfw _ _ ((eB 16).at_lt HF3.out.2)).trans HF3.out.2
          have h5lt := (eB 16).at_lt h5x
          have har2 := ((eB 16).at_fr HF.out _ _ ((eB 16).at_lt HBB.out.2)).trans HBB.out.2
          have hgr2 := (eB 16).at_lt har2
          have HFW := Lib.hid (HF3.out.1.trans hfw)
          have h5n : w.heap.size + 1 < wr.heap.size + 1 := by omega
          clear hfw
          have hz1 := ((eB 16).at_newOld (w := wr.drew) (b := w.heap.size + 1) (o := 0) (eB 16) 27 z16N h5lt).trans h5x
          go_wp2_with fail
          go_cut [14, 15] from 74 to 81 (fun v14 v15 wx => ∃ g, v14 = .pointer (some ⟨g, 0, none⟩) ∧ v15 = .int .i64 FE ∧ wr.heap.size ≤ g ∧ (eB 16).at_ wx g 0 = some FY ∧ Fr0 wr wx)
          case first =>
            go_region_with (first
              | (go_at_call 17
                 refine (own_any p _ A' M c' _ (HR.out.2.fr0 (by first | exact HFW.out.drew | exact HFW.out.drew.newE _ _ _)) (by omega)).mono ?_
                 rintro e wq ⟨Ax, cx, rfl, hoq, hfq⟩
                 have hfr : Fr0 wr wq := by first | exact (Fr.drew (Fr.refl _ _)).trans hfq | exact ((Fr.drew (Fr.refl _ _)).newE _ _ _).trans hfq
                 have HQ := Lib.hid (And.intro (hoq.rds (by omega)) hfr)
                 have lq := ((eB 16).at_fr hfr _ _ h5lt).trans h5x
                 have lq2 := Nat.lt_of_lt_of_le h5lt hfr.size
                 have lq3 : w.heap.size + 1 < wq.heap.size + 1 := by omega
                 have hz2 := ((eB 16).at_newOld (w := wq) (b := w.heap.size + 1) (o := 0) (eB 16) 27 z16N lq2).trans lq
                 try have okq := Enc.okOwnD (eB 16) hfq
                 clear hoq hfq hfr)
              | (go_at_call 25
                 refine (from_any x i p _ Ax M cx _ (HQ.out.1.fr0 (by first | exact Fr.refl _ _ | exact (Fr.refl _ _).newE _ _ _)) (by first | exact Nat.le_refl _ | simp)).mono ?_
                 rintro e wt ⟨rfl, hft⟩
                 rw [← HFY.out, ← HFE.out]
                 have HFT := Lib.hid (show Fr0 wr wt by first | exact HQ.out.2.trans hft | exact (HQ.out.2.newE _ _ _).trans hft)
                 try have okt := (okA_fr hft _ 0 16 okq.1).trans okq.2
                 try have okt := (Enc.okOwn (eB 16) hft).2
                 clear hft))
            all_goals
              go_wp2_with fail
              go_meet
              first
              | exact ⟨wr.heap.size, rfl, rfl, Nat.le_refl _, (eB 16).at_put okt, HFT.out.fin (eB 16) (Nat.le_refl _) 0 _⟩
              | exact ⟨wq.heap.size, rfl, rfl, HQ.out.2.size, (eB 16).at_put okt, HFT.out.fin (eB 16) HQ.out.2.size 0 _⟩
              | exact ⟨wt.heap.size, rfl, rfl, HFT.out.size, (eB 16).at_new _ _, HFT.out.newE _ _ _⟩
          case rest =>
          obtain ⟨g, rfl, rfl, hg, hgat, hfc⟩ := hcut
          have h5y := ((eB 16).at_fr hfc _ _ h5lt).trans h5x
          have har3 := ((eB 16).at_fr hfc _ _ hgr2).trans har2
          have HC := Lib.hid (And.intro hgat (And.intro (HFW.out.trans hfc) har3))
          clear h5x h5lt har2 hgr2 h5n hgat hfc har3
          go_wp2_with fail
          refine (rpairs_any x i p _ A' M c' _ (HR.out.2.fr0 HC.out.2.1)).mono ?_
          rintro e w8 ⟨A8, c8, rfl, ho8, hf8⟩
          rw [← HFY.out, ← HFE.out]
          obtain ⟨n8, HN8⟩ := nm (pairsR x i p).length
          rw [← HN8.out]
          have hgat8 := ((eB 16).at_fr hf8 _ _ ((eB 16).at_lt HC.out.1)).trans HC.out.1
          have h5x8 := ((eB 16).at_fr hf8 _ _ ((eB 16).at_lt h5y)).trans h5y
          have har8 := ((eB 16).at_fr hf8 _ _ ((eB 16).at_lt HC.out.2.2)).trans HC.out.2.2
          have hf8w := HC.out.2.1.trans hf8
          obtain ⟨w9, HW9⟩ := nm ((eB 16).new 24 w8 FY)
          have hgat : (eB 16).at_ w9 g 0 = some FY := by rw [HW9.out, (eB 16).at_newOld _ _ _ ((eB 16).at_lt hgat8)]; exact hgat8
          have h5x : (eB 16).at_ w9 (w.heap.size + 1) 0 = some x := by rw [HW9.out, (eB 16).at_newOld _ _ _ ((eB 16).at_lt h5x8)]; exact h5x8
          have har2 : (eB 16).at_ w9 gr 0 = some RT := by rw [HW9.out, (eB 16).at_newOld _ _ _ ((eB 16).at_lt har8)]; exact har8
          have h17 : (eB 16).at_ w9 w8.heap.size 0 = some FY := by rw [HW9.out]; simp
          have HFX := Lib.hid (show Fr0 w w9 by rw [HW9.out]; exact hf8w.newE _ _ _)
          have hglt := (eB 16).at_lt hgat
          have h5lt := (eB 16).at_lt h5x
          have hgr2 := (eB 16).at_lt har2
          clear ho8 hf8 hgat8 h5x8 har8 hf8w h5y
          go_wp2_with fail
          rw [← HW9.out]
          clear HW9
          go_wp2_with fail
          by_cases hE : FE = 0
          · have hE' : (FE == 0) = true := by simpa using hE
            have hE2 : FE == 0 := hE'
            have hq := erun_ld_bulletin_merkle_Node w9 g 0 (by rw [hgat]; rfl)
            rw [hq, hgat]
            clear hq
            have HVY := Lib.hid (show verifyY RT x i p = decide (FY = RT) by unfold verifyY; rw [← HFY.out, ← HM.out, ← HFE.out, hE]; rfl)
            go_wp2_with fail
            refine reg_start (by kernel_rfl) ?_
            refine reg_uno (D := [some 98, some 99, some 100, some 101, some 102, some 103, some 104, some 105, some 106, some 107, some 108, some 109, some 110, some 111, some 4]) (J := [0, 1, 2, 3, 4, 5, 6, 7]) 8 [] [PV ((eB 16).v RT), PV ((eB 16).v x), PV (.int .i64 i), PV (.slice A' M c'), PR p M, PV (.bool (decide (FY = RT))), PV (.int .i64 0), PV (.bool true)] TT616 (by kernel_rfl) (by kernel_rfl) (by kernel_rfl) rfl rfl rfl
              (stab_cons (PV.stab _) (stab_cons (PV.stab _) (stab_cons (PV.stab _) (stab_cons (PV.stab _) (stab_cons (PR.stab p M) (stab_cons (PV.stab _) (stab_cons (PV.stab _) (stab_cons (PV.stab _) stab_nil))))))))
              (fun v => usteps_cons ?_ (usteps_cons ?_ (usteps_cons ?_ (usteps_cons ?_ (usteps_cons ?_ (usteps_cons ?_ (usteps_cons ?_ (usteps_cons ?_ (usteps_nil))))))))) (fun v wx hx hP hA => ?_)
            · refine ustep_mk (D := [some 98, some 99, some 100, some 101, some 102, some 103, some 104, some 105, some 106, some 107, some 108, some 109, some 110, some 111, some 4]) (Ti := []) rfl rfl rfl rfl (fun wx hx hP => ?_)   -- 0: load 27 (tmp 9)
              have hld := ((eB 16).at_fr ((Fr.drew (Fr.refl _ _)).trans hx) _ _ hgr2).trans har2
              clear hP
              simp only [putD, List.getD_cons_zero, List.getD_cons_succ]
              go_wp2_with fail
              exact Q1.mk rfl _ rfl ⟨Fr.refl _ _, rfl, frok_no rfl⟩
            · refine ustep_mk (D := [some 98, some 99, some 100, some 101, some 102, some 103, some 104, some 105, some 106, some 107, some 108, some 109, some 110, some 111, some 4]) (Ti := []) rfl rfl rfl rfl (fun wx hx hP => ?_)   -- 1: load 24 (tmp 5)
              have hld := ((eB 16).at_fr ((Fr.drew (Fr.refl _ _)).trans hx) _ _ h5lt).trans h5x
              clear hP
              simp only [putD, List.getD_cons_zero, List.getD_cons_succ]
              go_wp2_with fail
              exact Q1.mk rfl _ rfl ⟨Fr.refl _ _, rfl, frok_no rfl⟩
            · refine ustep_mk (D := [some 98, some 99, some 100, some 101, some 102, some 103, some 104, some 105, some 106, some 107, some 108, some 109, some 110, some 111, some 4]) (Ti := []) rfl rfl rfl rfl (fun wx hx hP => ?_)   -- 2: move (tmp 6)
              clear hP
              simp only [putD, List.getD_cons_zero, List.getD_cons_succ]
              go_wp2_with fail
              exact Q1.mk rfl _ rfl ⟨Fr.refl _ _, rfl, frok_no rfl⟩
            · refine ustep_mk (D := [some 98, some 99, some 100, some 101, some 102, some 103, some 104, some 105, some 106, some 107, some 108, some 109, some 110, some 111, some 4]) (Ti := []) rfl rfl rfl rfl (fun wx hx hP => ?_)   -- 3: move (tmp 7)
              clear hP
              simp only [putD, List.getD_cons_zero, List.getD_cons_succ]
              go_wp2_with fail
              exact Q1.mk rfl _ rfl ⟨Fr.refl _ _, rfl, frok_no rfl⟩
            · refine ustep_mk (D := [some 98, some 99, some 100, some 101, some 102, some 103, some 104, some 105, some 106, some 107, some 108, some 109, some 110, some 111, some 4]) (Ti := [3]) rfl rfl rfl rfl (fun wx hx hP => ?_)   -- 4: call { callee := Callee.value (func 17), args := #
              have h3 : v 3 = .slice A' M c' := hP.1
              clear hP
              simp only [putD, List.getD_cons_zero, List.getD_cons_succ]
              go_wp2_with fail
              refine (own_any p _ A' M c' _ (HR.out.2.fr0 (HFX.out.trans ((Fr.drew (Fr.refl _ _)).trans hx))) (by omega)).mono ?_
              rintro e wy ⟨Az, cz, rfl, hoz, hfy⟩
              have hrz := hoz.rds (by omega)
              go_wp2_with fail
              exact Q1.mk rfl _ rfl ⟨hfy, ⟨_, _, rfl, hrz⟩, frok_no rfl⟩
            · refine ustep_mk (D := [some 98, some 99, some 100, some 101, some 102, some 103, some 104, some 105, some 106, some 107, some 108, some 109, some 110, some 111, some 4]) (Ti := [0, 1, 2, 3, 4]) rfl rfl rfl rfl (fun wx hx hP => ?_)   -- 5: call { callee := Callee.value (func 24), args := #
              have h0 : v 0 = (eB 16).v RT := hP.1
              have h1 : v 1 = (eB 16).v x := hP.2.1
              have h2 : v 2 = .int .i64 i := hP.2.2.1
              have h3 : v 3 = .slice A' M c' := hP.2.2.2.1
              obtain ⟨Ay, cy, h4, hy4⟩ := hP.2.2.2.2.1
              clear hP
              simp only [putD, List.getD_cons_zero, List.getD_cons_succ]
              go_wp2_with fail
              refine (verify_any RT x i p _ Ay M cy _ hy4 (Nat.le_refl _)).mono ?_
              rintro e wy ⟨rfl, hfy⟩
              rw [HVY.out]
              go_wp2_with fail
              exact Q1.mk rfl _ rfl ⟨hfy, rfl, frok_no rfl⟩
            · refine ustep_mk (D := [some 98, some 99, some 100, some 101, some 102, some 103, some 104, some 105, some 106, some 107, some 108, some 109, some 110, some 111, some 4]) (Ti := []) rfl rfl rfl rfl (fun wx hx hP => ?_)   -- 6: move (tmp 15)
              clear hP
              simp only [putD, List.getD_cons_zero, List.getD_cons_succ]
              go_wp2_with fail
              exact Q1.mk rfl _ rfl ⟨Fr.refl _ _, rfl, frok_no rfl⟩
            · refine ustep_mk (D := [some 98, some 99, some 100, some 101, some 102, some 103, some 104, some 105, some 106, some 107, some 108, some 109, some 110, some 111, some 4]) (Ti := [6]) rfl rfl rfl rfl (fun wx hx hP => ?_)   -- 7: binOp Bineql 49 (tmp 104) (const (Value.int IntKin
              have h6 : v 6 = .int .i64 0 := hP.1
              clear hP
              simp only [putD, List.getD_cons_zero, List.getD_cons_succ]
              go_wp2_with fail
              exact Q1.mk rfl _ rfl ⟨Fr.refl _ _, rfl, frok_no rfl⟩
            have h0 : v 0 = (eB 16).v RT := hP.1
            have h1 : v 1 = (eB 16).v x := hP.2.1
            have h2 : v 2 = .int .i64 i := hP.2.2.1
            have h3 : v 3 = .slice A' M c' := hP.2.2.2.1
            obtain ⟨Ay, cy, h4, hy4⟩ := hP.2.2.2.2.1
            have h5 : v 5 = .bool (decide (FY = RT)) := hP.2.2.2.2.2.1
            have h6 : v 6 = .int .i64 0 := hP.2.2.2.2.2.2.1
            have h7 : v 7 = .bool true := hP.2.2.2.2.2.2.2.1
            have f8 : Fr0 w9 wx := (Fr.drew (Fr.refl _ _)).trans hx
            clear hx hA
            clear hP
            simp only [putD, List.getD_cons_zero, List.getD_cons_succ]
            refine reg_seq' 112 1 TT616 (by kernel_rfl) (by kernel_rfl) ?_
            simp only [List.drop_succ_cons, List.drop_zero, List.take_succ_cons, List.take_zero]
            go_wp2_with fail
            refine QR.mk ?_
            refine reg_uno (D := [some 98, some 99, some 100, some 101, some 102, some 103, some 104, some 105, some 106, some 107, some 108, some 109, some 110, some 111, some 4]) (J := [9, 10]) 11 [] [PV ((eB 16).v FY), PV ((eB 16).v RT)] TT616 (by kernel_rfl) (by kernel_rfl) (by kernel_rfl) rfl rfl rfl
              (stab_cons (PV.stab _) (stab_cons (PV.stab _) stab_nil))
              (fun v => usteps_cons ?_ (usteps_cons ?_ (usteps_nil))) (fun v wx hx hP hA => ?_)
            · refine ustep_mk (D := [some 98, some 99, some 100, some 101, some 102, some 103, some 104, some 105, some 106, some 107, some 108, some 109, some 110, some 111, some 4]) (Ti := []) rfl rfl rfl rfl (fun wx hx hP => ?_)   -- 9: load 27 (tmp 14)
              have hld := ((eB 16).at_fr (f8.trans hx) _ _ hglt).trans hgat
              clear hP
              simp only [putD, List.getD_cons_zero, List.getD_cons_succ]
              go_wp2_with fail
              exact Q1.mk rfl _ rfl ⟨Fr.refl _ _, rfl, frok_no rfl⟩
            · refine ustep_mk (D := [some 98, some 99, some 100, some 101, some 102, some 103, some 104, some 105, some 106, some 107, some 108, some 109, some 110, some 111, some 4]) (Ti := []) rfl rfl rfl rfl (fun wx hx hP => ?_)   -- 10: load 27 (tmp 9)
              have hld := ((eB 16).at_fr (f8.trans hx) _ _ hgr2).trans har2
              clear hP
              simp only [putD, List.getD_cons_zero, List.getD_cons_succ]
              go_wp2_with fail
              exact Q1.mk rfl _ rfl ⟨Fr.refl _ _, rfl, frok_no rfl⟩
            have h9 : v 9 = (eB 16).v FY := hP.1
            have h10 : v 10 = (eB 16).v RT := hP.2.1
            have f9 : Fr0 w9 wx := f8.trans hx
            clear hx hA
            clear hP
            simp only [putD, List.getD_cons_zero, List.getD_cons_succ]
            refine reg_seq' 112 4 TT616 (by kernel_rfl) (by kernel_rfl) ?_
            simp only [List.drop_succ_cons, List.drop_zero, List.take_succ_cons, List.take_zero]
            go_wp2_with fail
            refine QR.mk ?_
            refine reg_end (by decide) ?_
            go_wp2_with fail
            go_ret
            exact ⟨by simp, Fr0.below (HFX.out.trans f9)⟩
          · have hE' : (FE == 0) = false := by simpa using hE
            have hq := erun_ld_bulletin_merkle_Node w9 g 0 (by rw [hgat]; rfl)
            rw [hq, hgat]
            clear hq
            have HVY := Lib.hid (show verifyY RT x i p = false by unfold verifyY; rw [← HM.out, ← HFE.out]; simp [hE])
            go_wp2_with fail
            refine reg_start (by kernel_rfl) ?_
            refine reg_uno (D := [some 98, some 99, some 100, some 101, some 102, some 103, some 104, some 105, some 106, some 107, some 108, some 109, some 110, some 111, some 4]) (J := [0, 1, 2, 3, 4, 5, 6, 7]) 8 [] [PV ((eB 16).v RT), PV ((eB 16).v x), PV (.int .i64 i), PV (.slice A' M c'), PR p M, PV (.bool false), PV (.int .i64 FE), PV (.bool false)] TT616 (by kernel_rfl) (by kernel_rfl) (by kernel_rfl) rfl rfl rfl
              (stab_cons (PV.stab _) (stab_cons (PV.stab _) (stab_cons (PV.stab _) (stab_cons (PV.stab _) (stab_cons (PR.stab p M) (stab_cons (PV.stab _) (stab_cons (PV.stab _) (stab_cons (PV.stab _) stab_nil))))))))
              (fun v => usteps_cons ?_ (usteps_cons ?_ (usteps_cons ?_ (usteps_cons ?_ (usteps_cons ?_ (usteps_cons ?_ (usteps_cons ?_ (usteps_cons ?_ (usteps_nil))))))))) (fun v wx hx hP hA => ?_)
            · refine ustep_mk (D := [some 98, some 99, some 100, some 101, some 102, some 103, some 104, some 105, some 106, some 107, some 108, some 109, some 110, some 111, some 4]) (Ti := []) rfl rfl rfl rfl (fun wx hx hP => ?_)   -- 0: load 27 (tmp 9)
              have hld := ((eB 16).at_fr ((Fr.drew (Fr.refl _ _)).trans hx) _ _ hgr2).trans har2
              clear hP
              simp only [putD, List.getD_cons_zero, List.getD_cons_succ]
              go_wp2_with fail
              exact Q1.mk rfl _ rfl ⟨Fr.refl _ _, rfl, frok_no rfl⟩
            · refine ustep_mk (D := [some 98, some 99, some 100, some 101, some 102, some 103, some 104, some 105, some 106, some 107, some 108, some 109, some 110, some 111, some 4]) (Ti := []) rfl rfl rfl rfl (fun wx hx hP => ?_)   -- 1: load 24 (tmp 5)
              have hld := ((eB 16).at_fr ((Fr.drew (Fr.refl _ _)).trans hx) _ _ h5lt).trans h5x
              clear hP
              simp only [putD, List.getD_cons_zero, List.getD_cons_succ]
              go_wp2_with fail
              exact Q1.mk rfl _ rfl ⟨Fr.refl _ _, rfl, frok_no rfl⟩
            · refine ustep_mk (D := [some 98, some 99, some 100, some 101, some 102, some 103, some 104, some 105, some 106, some 107, some 108, some 109, some 110, some 111, some 4]) (Ti := []) rfl rfl rfl rfl (fun wx hx hP => ?_)   -- 2: move (tmp 6)
              clear hP
              simp only [putD, List.getD_cons_zero, List.getD_cons_succ]
              go_wp2_with fail
              exact Q1.mk rfl _ rfl ⟨Fr.refl _ _, rfl, frok_no rfl⟩
            · refine ustep_mk (D := [some 98, some 99, some 100, some 101, some 102, some 103, some 104, some 105, some 106, some 107, some 108, some 109, some 110, some 111, some 4]) (Ti := []) rfl rfl rfl rfl (fun wx hx hP => ?_)   -- 3: move (tmp 7)
              clear hP
              simp only [putD, List.getD_cons_zero, List.getD_cons_succ]
              go_wp2_with fail
              exact Q1.mk rfl _ rfl ⟨Fr.refl _ _, rfl, frok_no rfl⟩
            · refine ustep_mk (D := [some 98, some 99, some 100, some 101, some 102, some 103, some 104, some 105, some 106, some 107, some 108, some 109, some 110, some 111, some 4]) (Ti := [3]) rfl rfl rfl rfl (fun wx hx hP => ?_)   -- 4: call { callee := Callee.value (func 17), args := #
              have h3 : v 3 = .slice A' M c' := hP.1
              clear hP
              simp only [putD, List.getD_cons_zero, List.getD_cons_succ]
              go_wp2_with fail
              refine (own_any p _ A' M c' _ (HR.out.2.fr0 (HFX.out.trans ((Fr.drew (Fr.refl _ _)).trans hx))) (by omega)).mono ?_
              rintro e wy ⟨Az, cz, rfl, hoz, hfy⟩
              have hrz := hoz.rds (by omega)
              go_wp2_with fail
              exact Q1.mk rfl _ rfl ⟨hfy, ⟨_, _, rfl, hrz⟩, frok_no rfl⟩
            · refine ustep_mk (D := [some 98, some 99, some 100, some 101, some 102, some 103, some 104, some 105, some 106, some 107, some 108, some 109, some 110, some 111, some 4]) (Ti := [0, 1, 2, 3, 4]) rfl rfl rfl rfl (fun wx hx hP => ?_)   -- 5: call { callee := Callee.value (func 24), args := #
              have h0 : v 0 = (eB 16).v RT := hP.1
              have h1 : v 1 = (eB 16).v x := hP.2.1
              have h2 : v 2 = .int .i64 i := hP.2.2.1
              have h3 : v 3 = .slice A' M c' := hP.2.2.2.1
              obtain ⟨Ay, cy, h4, hy4⟩ := hP.2.2.2.2.1
              clear hP
              simp only [putD, List.getD_cons_zero, List.getD_cons_succ]
              go_wp2_with fail
              refine (verify_any RT x i p _ Ay M cy _ hy4 (Nat.le_refl _)).mono ?_
              rintro e wy ⟨rfl, hfy⟩
              rw [HVY.out]
              go_wp2_with fail
              exact Q1.mk rfl _ rfl ⟨hfy, rfl, frok_no rfl⟩
            · refine ustep_mk (D := [some 98, some 99, some 100, some 101, some 102, some 103, some 104, some 105, some 106, some 107, some 108, some 109, some 110, some 111, some 4]) (Ti := []) rfl rfl rfl rfl (fun wx hx hP => ?_)   -- 6: move (tmp 15)
              clear hP
              simp only [putD, List.getD_cons_zero, List.getD_cons_succ]
              go_wp2_with fail
              exact Q1.mk rfl _ rfl ⟨Fr.refl _ _, rfl, frok_no rfl⟩
            · refine ustep_mk (D := [some 98, some 99, some 100, some 101, some 102, some 103, some 104, some 105, some 106, some 107, some 108, some 109, some 110, some 111, some 4]) (Ti := [6]) rfl rfl rfl rfl (fun wx hx hP => ?_)   -- 7: binOp Bineql 49 (tmp 104) (const (Value.int IntKin
              have h6 : v 6 = .int .i64 FE := hP.1
              clear hP
              simp only [putD, List.getD_cons_zero, List.getD_cons_succ]
              go_wp2_with fail
              exact Q1.mk rfl _ rfl ⟨Fr.refl _ _, rfl, frok_no rfl⟩
            have h0 : v 0 = (eB 16).v RT := hP.1
            have h1 : v 1 = (eB 16).v x := hP.2.1
            have h2 : v 2 = .int .i64 i := hP.2.2.1
            have h3 : v 3 = .slice A' M c' := hP.2.2.2.1
            obtain ⟨Ay, cy, h4, hy4⟩ := hP.2.2.2.2.1
            have h5 : v 5 = .bool false := hP.2.2.2.2.2.1
            have h6 : v 6 = .int .i64 FE := hP.2.2.2.2.2.2.1
            have h7 : v 7 = .bool false := hP.2.2.2.2.2.2.2.1
            have f8 : Fr0 w9 wx := (Fr.drew (Fr.refl _ _)).trans hx
            clear hx hA
            clear hP
            simp only [putD, List.getD_cons_zero, List.getD_cons_succ]
            refine reg_seq' 112 1 TT616 (by kernel_rfl) (by kernel_rfl) ?_
            simp only [List.drop_succ_cons, List.drop_zero, List.take_succ_cons, List.take_zero]
            go_wp2_with fail
            refine QR.mk ?_
            refine reg_uno (D := [some 98, some 99, some 100, some 101, some 102, some 103, some 104, some 105, some 106, some 107, some 108, some 109, some 110, some 111, some 4]) (J := [9, 10]) 11 [] [PV (undef), PV (undef)] TT616 (by kernel_rfl) (by kernel_rfl) (by kernel_rfl) rfl rfl rfl
              (stab_cons (PV.stab _) (stab_cons (PV.stab _) stab_nil))
              (fun v => usteps_cons ?_ (usteps_cons ?_ (usteps_nil))) (fun v wx hx hP hA => ?_)
            · refine ustep_mk (D := [some 98, some 99, some 100, some 101, some 102, some 103, some 104, some 105, some 106, some 107, some 108, some 109, some 110, some 111, some 4]) (Ti := []) rfl rfl rfl rfl (fun wx hx hP => ?_)   -- 9: load 27 (tmp 14)
              have hld := ((eB 16).at_fr (f8.trans hx) _ _ hglt).trans hgat
              clear hP
              simp only [putD, List.getD_cons_zero, List.getD_cons_succ]
              go_wp2_with fail
              exact Q1.mk rfl _ rfl ⟨Fr.refl _ _, rfl, frok_no rfl⟩
            · refine ustep_mk (D := [some 98, some 99, some 100, some 101, some 102, some 103, some 104, some 105, some 106, some 107, some 108, some 109, some 110, some 111, some 4]) (Ti := []) rfl rfl rfl rfl (fun wx hx hP => ?_)   -- 10: load 27 (tmp 9)
              have hld := ((eB 16).at_fr (f8.trans hx) _ _ hgr2).trans har2
              clear hP
              simp only [putD, List.getD_cons_zero, List.getD_cons_succ]
              go_wp2_with fail
              exact Q1.mk rfl _ rfl ⟨Fr.refl _ _, rfl, frok_no rfl⟩
            have h9 : v 9 = undef := hP.1
            have h10 : v 10 = undef := hP.2.1
            have f9 : Fr0 w9 wx := f8.trans hx
            clear hx hA
            clear hP
            simp only [putD, List.getD_cons_zero, List.getD_cons_succ]
            refine reg_seq' 112 4 TT616 (by kernel_rfl) (by kernel_rfl) ?_
            simp only [List.drop_succ_cons, List.drop_zero, List.take_succ_cons, List.take_zero]
            go_wp2_with fail
            refine QR.mk ?_
            refine reg_end (by decide) ?_
            go_wp2_with fail
            go_ret
            exact ⟨by simp, Fr0.below (HFX.out.trans f9)⟩
        · have z2 : ¬ (k : Int) < (L : Int) := by omega
          clear hlt
          have hfw : Fr0 w3 wr := HBB.out.1.trans HF.out
          have h5x := ((eB 16).at_fr hfw _ _ ((eB 16).at_lt HF3.out.2)).trans HF3.out.2
          have h5lt := (eB 16).at_lt h5x
          have har2 := ((eB 16).at_fr HF.out _ _ ((eB 16).at_lt HBB.out.2)).trans HBB.out.2
          have hgr2 := (eB 16).at_lt har2
          have HFW := Lib.hid (HF3.out.1.trans hfw)
          have h5n : w.heap.size + 1 < wr.heap.size + 1 := by omega
          clear hfw
          have hz1 := ((eB 16).at_newOld (w := wr.drew) (b := w.heap.size + 1) (o := 0) (eB 16) 27 z16N h5lt).trans h5x
          go_wp2_with fail
          go_cut [14, 15] from 74 to 81 (fun v14 v15 wx => ∃ g, v14 = .pointer (some ⟨g, 0, none⟩) ∧ v15 = .int .i64 FE ∧ wr.heap.size ≤ g ∧ (eB 16).at_ wx g 0 = some FY ∧ Fr0 wr wx)
          case first =>
            go_region_with (first
              | (go_at_call 17
                 refine (own_any p _ A' M c' _ (HR.out.2.fr0 (by first | exact HFW.out.drew | exact HFW.out.drew.newE _ _ _)) (by omega)).mono ?_
                 rintro e wq ⟨Ax, cx, rfl, hoq, hfq⟩
                 have hfr : Fr0 wr wq := by first | exact (Fr.drew (Fr.refl _ _)).trans hfq | exact ((Fr.drew (Fr.refl _ _)).newE _ _ _).trans hfq
                 have HQ := Lib.hid (And.intro (hoq.rds (by omega)) hfr)
                 have lq := ((eB 16).at_fr hfr _ _ h5lt).trans h5x
                 have lq2 := Nat.lt_of_lt_of_le h5lt hfr.size
                 have lq3 : w.heap.size + 1 < wq.heap.size + 1 := by omega
                 have hz2 := ((eB 16).at_newOld (w := wq) (b := w.heap.size + 1) (o := 0) (eB 16) 27 z16N lq2).trans lq
                 try have okq := Enc.okOwnD (eB 16) hfq
                 clear hoq hfq hfr)
              | (go_at_call 25
                 refine (from_any x i p _ Ax M cx _ (HQ.out.1.fr0 (by first | exact Fr.refl _ _ | exact (Fr.refl _ _).newE _ _ _)) (by first | exact Nat.le_refl _ | simp)).mono ?_
                 rintro e wt ⟨rfl, hft⟩
                 rw [← HFY.out, ← HFE.out]
                 have HFT := Lib.hid (show Fr0 wr wt by first | exact HQ.out.2.trans hft | exact (HQ.out.2.newE _ _ _).trans hft)
                 try have okt := (okA_fr hft _ 0 16 okq.1).trans okq.2
                 try have okt := (Enc.okOwn (eB 16) hft).2
                 clear hft))
            all_goals
              go_wp2_with fail
              go_meet
              first
              | exact ⟨wr.heap.size, rfl, rfl, Nat.le_refl _, (eB 16).at_put okt, HFT.out.fin (eB 16) (Nat.le_refl _) 0 _⟩
              | exact ⟨wq.heap.size, rfl, rfl, HQ.out.2.size, (eB 16).at_put okt, HFT.out.fin (eB 16) HQ.out.2.size 0 _⟩
              | exact ⟨wt.heap.size, rfl, rfl, HFT.out.size, (eB 16).at_new _ _, HFT.out.newE _ _ _⟩
          case rest =>
          obtain ⟨g, rfl, rfl, hg, hgat, hfc⟩ := hcut
          have h5y := ((eB 16).at_fr hfc _ _ h5lt).trans h5x
          have har3 := ((eB 16).at_fr hfc _ _ hgr2).trans har2
          have HC := Lib.hid (And.intro hgat (And.intro (HFW.out.trans hfc) har3))
          clear h5x h5lt har2 hgr2 h5n hgat hfc har3
          go_wp2_with fail
          refine (rpairs_any x i p _ A' M c' _ (HR.out.2.fr0 HC.out.2.1)).mono ?_
          rintro e w8 ⟨A8, c8, rfl, ho8, hf8⟩
          rw [← HFY.out, ← HFE.out]
          obtain ⟨n8, HN8⟩ := nm (pairsR x i p).length
          rw [← HN8.out]
          have hgat8 := ((eB 16).at_fr hf8 _ _ ((eB 16).at_lt HC.out.1)).trans HC.out.1
          have h5x8 := ((eB 16).at_fr hf8 _ _ ((eB 16).at_lt h5y)).trans h5y
          have har8 := ((eB 16).at_fr hf8 _ _ ((eB 16).at_lt HC.out.2.2)).trans HC.out.2.2
          have hf8w := HC.out.2.1.trans hf8
          obtain ⟨w9, HW9⟩ := nm ((eB 16).new 24 w8 FY)
          have hgat : (eB 16).at_ w9 g 0 = some FY := by rw [HW9.out, (eB 16).at_newOld _ _ _ ((eB 16).at_lt hgat8)]; exact hgat8
          have h5x : (eB 16).at_ w9 (w.heap.size + 1) 0 = some x := by rw [HW9.out, (eB 16).at_newOld _ _ _ ((eB 16).at_lt h5x8)]; exact h5x8
          have har2 : (eB 16).at_ w9 gr 0 = some RT := by rw [HW9.out, (eB 16).at_newOld _ _ _ ((eB 16).at_lt har8)]; exact har8
          have h17 : (eB 16).at_ w9 w8.heap.size 0 = some FY := by rw [HW9.out]; simp
          have HFX := Lib.hid (show Fr0 w w9 by rw [HW9.out]; exact hf8w.newE _ _ _)
          have hglt := (eB 16).at_lt hgat
          have h5lt := (eB 16).at_lt h5x
          have hgr2 := (eB 16).at_lt har2
          clear ho8 hf8 hgat8 h5x8 har8 hf8w h5y
          go_wp2_with fail
          rw [← HW9.out]
          clear HW9
          go_wp2_with fail
          by_cases hE : FE = 0
          · have hE' : (FE == 0) = true := by simpa using hE
            have hE2 : FE == 0 := hE'
            have hq := erun_ld_bulletin_merkle_Node w9 g 0 (by rw [hgat]; rfl)
            rw [hq, hgat]
            clear hq
            have HVY := Lib.hid (show verifyY RT x i p = decide (FY = RT) by unfold verifyY; rw [← HFY.out, ← HM.out, ← HFE.out, hE]; rfl)
            go_wp2_with fail
            refine reg_start (by kernel_rfl) ?_
            refine reg_uno (D := [some 98, some 99, some 100, some 101, some 102, some 103, some 104, some 105, some 106, some 107, some 108, some 109, some 110, some 111, some 4]) (J := [0, 1, 2, 3, 4, 5, 6, 7]) 8 [] [PV ((eB 16).v RT), PV ((eB 16).v x), PV (.int .i64 i), PV (.slice A' M c'), PR p M, PV (.bool (decide (FY = RT))), PV (.int .i64 0), PV (.bool true)] TT616 (by kernel_rfl) (by kernel_rfl) (by kernel_rfl) rfl rfl rfl
              (stab_cons (PV.stab _) (stab_cons (PV.stab _) (stab_cons (PV.stab _) (stab_cons (PV.stab _) (stab_cons (PR.stab p M) (stab_cons (PV.stab _) (stab_cons (PV.stab _) (stab_cons (PV.stab _) stab_nil))))))))
              (fun v => usteps_cons ?_ (usteps_cons ?_ (usteps_cons ?_ (usteps_cons ?_ (usteps_cons ?_ (usteps_cons ?_ (usteps_cons ?_ (usteps_cons ?_ (usteps_nil))))))))) (fun v wx hx hP hA => ?_)
            · refine ustep_mk (D := [some 98, some 99, some 100, some 101, some 102, some 103, some 104, some 105, some 106, some 107, some 108, some 109, some 110, some 111, some 4]) (Ti := []) rfl rfl rfl rfl (fun wx hx hP => ?_)   -- 0: load 27 (tmp 9)
              have hld := ((eB 16).at_fr ((Fr.drew (Fr.refl _ _)).trans hx) _ _ hgr2).trans har2
              clear hP
              simp only [putD, List.getD_cons_zero, List.getD_cons_succ]
              go_wp2_with fail
              exact Q1.mk rfl _ rfl ⟨Fr.refl _ _, rfl, frok_no rfl⟩
            · refine ustep_mk (D := [some 98, some 99, some 100, some 101, some 102, some 103, some 104, some 105, some 106, some 107, some 108, some 109, some 110, some 111, some 4]) (Ti := []) rfl rfl rfl rfl (fun wx hx hP => ?_)   -- 1: load 24 (tmp 5)
              have hld := ((eB 16).at_fr ((Fr.drew (Fr.refl _ _)).trans hx) _ _ h5lt).trans h5x
              clear hP
              simp only [putD, List.getD_cons_zero, List.getD_cons_succ]
              go_wp2_with fail
              exact Q1.mk rfl _ rfl ⟨Fr.refl _ _, rfl, frok_no rfl⟩
            · refine ustep_mk (D := [some 98, some 99, some 100, some 101, some 102, some 103, some 104, some 105, some 106, some 107, some 108, some 109, some 110, some 111, some 4]) (Ti := []) rfl rfl rfl rfl (fun wx hx hP => ?_)   -- 2: move (tmp 6)
              clear hP
              simp only [putD, List.getD_cons_zero, List.getD_cons_succ]
              go_wp2_with fail
              exact Q1.mk rfl _ rfl ⟨Fr.refl _ _, rfl, frok_no rfl⟩
            · refine ustep_mk (D := [some 98, some 99, some 100, some 101, some 102, some 103, some 104, some 105, some 106, some 107, some 108, some 109, some 110, some 111, some 4]) (Ti := []) rfl rfl rfl rfl (fun wx hx hP => ?_)   -- 3: move (tmp 7)
              clear hP
              simp only [putD, List.getD_cons_zero, List.getD_cons_succ]
              go_wp2_with fail
              exact Q1.mk rfl _ rfl ⟨Fr.refl _ _, rfl, frok_no rfl⟩
            · refine ustep_mk (D := [some 98, some 99, some 100, some 101, some 102, some 103, some 104, some 105, some 106, some 107, some 108, some 109, some 110, some 111, some 4]) (Ti := [3]) rfl rfl rfl rfl (fun wx hx hP => ?_)   -- 4: call { callee := Callee.value (func 17), args := #
              have h3 : v 3 = .slice A' M c' := hP.1
              clear hP
              simp only [putD, List.getD_cons_zero, List.getD_cons_succ]
              go_wp2_with fail
              refine (own_any p _ A' M c' _ (HR.out.2.fr0 (HFX.out.trans ((Fr.drew (Fr.refl _ _)).trans hx))) (by omega)).mono ?_
              rintro e wy ⟨Az, cz, rfl, hoz, hfy⟩
              have hrz := hoz.rds (by omega)
              go_wp2_with fail
              exact Q1.mk rfl _ rfl ⟨hfy, ⟨_, _, rfl, hrz⟩, frok_no rfl⟩
            · refine ustep_mk (D := [some 98, some 99, some 100, some 101, some 102, some 103, some 104, some 105, some 106, some 107, some 108, some 109, some 110, some 111, some 4]) (Ti := [0, 1, 2, 3, 4]) rfl rfl rfl rfl (fun wx hx hP => ?_)   -- 5: call { callee := Callee.value (func 24), args := #
              have h0 : v 0 = (eB 16).v RT := hP.1
              have h1 : v 1 = (eB 16).v x := hP.2.1
              have h2 : v 2 = .int .i64 i := hP.2.2.1
              have h3 : v 3 = .slice A' M c' := hP.2.2.2.1
              obtain ⟨Ay, cy, h4, hy4⟩ := hP.2.2.2.2.1
              clear hP
              simp only [putD, List.getD_cons_zero, List.getD_cons_succ]
              go_wp2_with fail
              refine (verify_any RT x i p _ Ay M cy _ hy4 (Nat.le_refl _)).mono ?_
              rintro e wy ⟨rfl, hfy⟩
              rw [HVY.out]
              go_wp2_with fail
              exact Q1.mk rfl _ rfl ⟨hfy, rfl, frok_no rfl⟩
            · refine ustep_mk (D := [some 98, some 99, some 100, some 101, some 102, some 103, some 104, some 105, some 106, some 107, some 108, some 109, some 110, some 111, some 4]) (Ti := []) rfl rfl rfl rfl (fun wx hx hP => ?_)   -- 6: move (tmp 15)
              clear hP
              simp only [putD, List.getD_cons_zero, List.getD_cons_succ]
              go_wp2_with fail
              exact Q1.mk rfl _ rfl ⟨Fr.refl _ _, rfl, frok_no rfl⟩
            · refine ustep_mk (D := [some 98, some 99, some 100, some 101, some 102, some 103, some 104, some 105, some 106, some 107, some 108, some 109, some 110, some 111, some 4]) (Ti := [6]) rfl rfl rfl rfl (fun wx hx hP => ?_)   -- 7: binOp Bineql 49 (tmp 104) (const (Value.int IntKin
              have h6 : v 6 = .int .i64 0 := hP.1
              clear hP
              simp only [putD, List.getD_cons_zero, List.getD_cons_succ]
              go_wp2_with fail
              exact Q1.mk rfl _ rfl ⟨Fr.refl _ _, rfl, frok_no rfl⟩
            have h0 : v 0 = (eB 16).v RT := hP.1
            have h1 : v 1 = (eB 16).v x := hP.2.1
            have h2 : v 2 = .int .i64 i := hP.2.2.1
            have h3 : v 3 = .slice A' M c' := hP.2.2.2.1
            obtain ⟨Ay, cy, h4, hy4⟩ := hP.2.2.2.2.1
            have h5 : v 5 = .bool (decide (FY = RT)) := hP.2.2.2.2.2.1
            have h6 : v 6 = .int .i64 0 := hP.2.2.2.2.2.2.1
            have h7 : v 7 = .bool true := hP.2.2.2.2.2.2.2.1
            have f8 : Fr0 w9 wx := (Fr.drew (Fr.refl _ _)).trans hx
            clear hx hA
            clear hP
            simp only [putD, List.getD_cons_zero, List.getD_cons_succ]
            refine reg_seq' 112 1 TT616 (by kernel_rfl) (by kernel_rfl) ?_
            simp only [List.drop_succ_cons, List.drop_zero, List.take_succ_cons, List.take_zero]
            go_wp2_with fail
            refine QR.mk ?_
            refine reg_uno (D := [some 98, some 99, some 100, some 101, some 102, some 103, some 104, some 105, some 106, some 107, some 108, some 109, some 110, some 111, some 4]) (J := [9, 10]) 11 [] [PV ((eB 16).v FY), PV ((eB 16).v RT)] TT616 (by kernel_rfl) (by kernel_rfl) (by kernel_rfl) rfl rfl rfl
              (stab_cons (PV.stab _) (stab_cons (PV.stab _) stab_nil))
              (fun v => usteps_cons ?_ (usteps_cons ?_ (usteps_nil))) (fun v wx hx hP hA => ?_)
            · refine ustep_mk (D := [some 98, some 99, some 100, some 101, some 102, some 103, some 104, some 105, some 106, some 107, some 108, some 109, some 110, some 111, some 4]) (Ti := []) rfl rfl rfl rfl (fun wx hx hP => ?_)   -- 9: load 27 (tmp 14)
              have hld := ((eB 16).at_fr (f8.trans hx) _ _ hglt).trans hgat
              clear hP
              simp only [putD, List.getD_cons_zero, List.getD_cons_succ]
              go_wp2_with fail
              exact Q1.mk rfl _ rfl ⟨Fr.refl _ _, rfl, frok_no rfl⟩
            · refine ustep_mk (D := [some 98, some 99, some 100, some 101, some 102, some 103, some 104, some 105, some 106, some 107, some 108, some 109, some 110, some 111, some 4]) (Ti := []) rfl rfl rfl rfl (fun wx hx hP => ?_)   -- 10: load 27 (tmp 9)
              have hld := ((eB 16).at_fr (f8.trans hx) _ _ hgr2).trans har2
              clear hP
              simp only [putD, List.getD_cons_zero, List.getD_cons_succ]
              go_wp2_with fail
              exact Q1.mk rfl _ rfl ⟨Fr.refl _ _, rfl, frok_no rfl⟩
            have h9 : v 9 = (eB 16).v FY := hP.1
            have h10 : v 10 = (eB 16).v RT := hP.2.1
            have f9 : Fr0 w9 wx := f8.trans hx
            clear hx hA
            clear hP
            simp only [putD, List.getD_cons_zero, List.getD_cons_succ]
            refine reg_seq' 112 4 TT616 (by kernel_rfl) (by kernel_rfl) ?_
            simp only [List.drop_succ_cons, List.drop_zero, List.take_succ_cons, List.take_zero]
            go_wp2_with fail
            refine QR.mk ?_
            refine reg_end (by decide) ?_
            go_wp2_with fail
            go_ret
            exact ⟨by simp, Fr0.below (HFX.out.trans f9)⟩
          · have hE' : (FE == 0) = false := by simpa using hE
            have hq := erun_ld_bulletin_merkle_Node w9 g 0 (by rw [hgat]; rfl)
            rw [hq, hgat]
            clear hq
            have HVY := Lib.hid (show verifyY RT x i p = false by unfold verifyY; rw [← HM.out, ← HFE.out]; simp [hE])
            go_wp2_with fail
            refine reg_start (by kernel_rfl) ?_
            refine reg_uno (D := [some 98, some 99, some 100, some 101, some 102, some 103, some 104, some 105, some 106, some 107, some 108, some 109, some 110, some 111, some 4]) (J := [0, 1, 2, 3, 4, 5, 6, 7]) 8 [] [PV ((eB 16).v RT), PV ((eB 16).v x), PV (.int .i64 i), PV (.slice A' M c'), PR p M, PV (.bool false), PV (.int .i64 FE), PV (.bool false)] TT616 (by kernel_rfl) (by kernel_rfl) (by kernel_rfl) rfl rfl rfl
              (stab_cons (PV.stab _) (stab_cons (PV.stab _) (stab_cons (PV.stab _) (stab_cons (PV.stab _) (stab_cons (PR.stab p M) (stab_cons (PV.stab _) (stab_cons (PV.stab _) (stab_cons (PV.stab _) stab_nil))))))))
              (fun v => usteps_cons ?_ (usteps_cons ?_ (usteps_cons ?_ (usteps_cons ?_ (usteps_cons ?_ (usteps_cons ?_ (usteps_cons ?_ (usteps_cons ?_ (usteps_nil))))))))) (fun v wx hx hP hA => ?_)
            · refine ustep_mk (D := [some 98, some 99, some 100, some 101, some 102, some 103, some 104, some 105, some 106, some 107, some 108, some 109, some 110, some 111, some 4]) (Ti := []) rfl rfl rfl rfl (fun wx hx hP => ?_)   -- 0: load 27 (tmp 9)
              have hld := ((eB 16).at_fr ((Fr.drew (Fr.refl _ _)).trans hx) _ _ hgr2).trans har2
              clear hP
              simp only [putD, List.getD_cons_zero, List.getD_cons_succ]
              go_wp2_with fail
              exact Q1.mk rfl _ rfl ⟨Fr.refl _ _, rfl, frok_no rfl⟩
            · refine ustep_mk (D := [some 98, some 99, some 100, some 101, some 102, some 103, some 104, some 105, some 106, some 107, some 108, some 109, some 110, some 111, some 4]) (Ti := []) rfl rfl rfl rfl (fun wx hx hP => ?_)   -- 1: load 24 (tmp 5)
              have hld := ((eB 16).at_fr ((Fr.drew (Fr.refl _ _)).trans hx) _ _ h5lt).trans h5x
              clear hP
              simp only [putD, List.getD_cons_zero, List.getD_cons_succ]
              go_wp2_with fail
              exact Q1.mk rfl _ rfl ⟨Fr.refl _ _, rfl, frok_no rfl⟩
            · refine ustep_mk (D := [some 98, some 99, some 100, some 101, some 102, some 103, some 104, some 105, some 106, some 107, some 108, some 109, some 110, some 111, some 4]) (Ti := []) rfl rfl rfl rfl (fun wx hx hP => ?_)   -- 2: move (tmp 6)
              clear hP
              simp only [putD, List.getD_cons_zero, List.getD_cons_succ]
              go_wp2_with fail
              exact Q1.mk rfl _ rfl ⟨Fr.refl _ _, rfl, frok_no rfl⟩
            · refine ustep_mk (D := [some 98, some 99, some 100, some 101, some 102, some 103, some 104, some 105, some 106, some 107, some 108, some 109, some 110, some 111, some 4]) (Ti := []) rfl rfl rfl rfl (fun wx hx hP => ?_)   -- 3: move (tmp 7)
              clear hP
              simp only [putD, List.getD_cons_zero, List.getD_cons_succ]
              go_wp2_with fail
              exact Q1.mk rfl _ rfl ⟨Fr.refl _ _, rfl, frok_no rfl⟩
            · refine ustep_mk (D := [some 98, some 99, some 100, some 101, some 102, some 103, some 104, some 105, some 106, some 107, some 108, some 109, some 110, some 111, some 4]) (Ti := [3]) rfl rfl rfl rfl (fun wx hx hP => ?_)   -- 4: call { callee := Callee.value (func 17), args := #
              have h3 : v 3 = .slice A' M c' := hP.1
              clear hP
              simp only [putD, List.getD_cons_zero, List.getD_cons_succ]
              go_wp2_with fail
              refine (own_any p _ A' M c' _ (HR.out.2.fr0 (HFX.out.trans ((Fr.drew (Fr.refl _ _)).trans hx))) (by omega)).mono ?_
              rintro e wy ⟨Az, cz, rfl, hoz, hfy⟩
              have hrz := hoz.rds (by omega)
              go_wp2_with fail
              exact Q1.mk rfl _ rfl ⟨hfy, ⟨_, _, rfl, hrz⟩, frok_no rfl⟩
            · refine ustep_mk (D := [some 98, some 99, some 100, some 101, some 102, some 103, some 104, some 105, some 106, some 107, some 108, some 109, some 110, some 111, some 4]) (Ti := [0, 1, 2, 3, 4]) rfl rfl rfl rfl (fun wx hx hP => ?_)   -- 5: call { callee := Callee.value (func 24), args := #
              have h0 : v 0 = (eB 16).v RT := hP.1
              have h1 : v 1 = (eB 16).v x := hP.2.1
              have h2 : v 2 = .int .i64 i := hP.2.2.1
              have h3 : v 3 = .slice A' M c' := hP.2.2.2.1
              obtain ⟨Ay, cy, h4, hy4⟩ := hP.2.2.2.2.1
              clear hP
              simp only [putD, List.getD_cons_zero, List.getD_cons_succ]
              go_wp2_with fail
              refine (verify_any RT x i p _ Ay M cy _ hy4 (Nat.le_refl _)).mono ?_
              rintro e wy ⟨rfl, hfy⟩
              rw [HVY.out]
              go_wp2_with fail
              exact Q1.mk rfl _ rfl ⟨hfy, rfl, frok_no rfl⟩
            · refine ustep_mk (D := [some 98, some 99, some 100, some 101, some 102, some 103, some 104, some 105, some 106, some 107, some 108, some 109, some 110, some 111, some 4]) (Ti := []) rfl rfl rfl rfl (fun wx hx hP => ?_)   -- 6: move (tmp 15)
              clear hP
              simp only [putD, List.getD_cons_zero, List.getD_cons_succ]
              go_wp2_with fail
              exact Q1.mk rfl _ rfl ⟨Fr.refl _ _, rfl, frok_no rfl⟩
            · refine ustep_mk (D := [some 98, some 99, some 100, some 101, some 102, some 103, some 104, some 105, some 106, some 107, some 108, some 109, some 110, some 111, some 4]) (Ti := [6]) rfl rfl rfl rfl (fun wx hx hP => ?_)   -- 7: binOp Bineql 49 (tmp 104) (const (Value.int IntKin
              have h6 : v 6 = .int .i64 FE := hP.1
              clear hP
              simp only [putD, List.getD_cons_zero, List.getD_cons_succ]
              go_wp2_with fail
              exact Q1.mk rfl _ rfl ⟨Fr.refl _ _, rfl, frok_no rfl⟩
            have h0 : v 0 = (eB 16).v RT := hP.1
            have h1 : v 1 = (eB 16).v x := hP.2.1
            have h2 : v 2 = .int .i64 i := hP.2.2.1
            have h3 : v 3 = .slice A' M c' := hP.2.2.2.1
            obtain ⟨Ay, cy, h4, hy4⟩ := hP.2.2.2.2.1
            have h5 : v 5 = .bool false := hP.2.2.2.2.2.1
            have h6 : v 6 = .int .i64 FE := hP.2.2.2.2.2.2.1
            have h7 : v 7 = .bool false := hP.2.2.2.2.2.2.2.1
            have f8 : Fr0 w9 wx := (Fr.drew (Fr.refl _ _)).trans hx
            clear hx hA
            clear hP
            simp only [putD, List.getD_cons_zero, List.getD_cons_succ]
            refine reg_seq' 112 1 TT616 (by kernel_rfl) (by kernel_rfl) ?_
            simp only [List.drop_succ_cons, List.drop_zero, List.take_succ_cons, List.take_zero]
            go_wp2_with fail
            refine QR.mk ?_
            refine reg_uno (D := [some 98, some 99, some 100, some 101, some 102, some 103, some 104, some 105, some 106, some 107, some 108, some 109, some 110, some 111, some 4]) (J := [9, 10]) 11 [] [PV (undef), PV (undef)] TT616 (by kernel_rfl) (by kernel_rfl) (by kernel_rfl) rfl rfl rfl
              (stab_cons (PV.stab _) (stab_cons (PV.stab _) stab_nil))
              (fun v => usteps_cons ?_ (usteps_cons ?_ (usteps_nil))) (fun v wx hx hP hA => ?_)
            · refine ustep_mk (D := [some 98, some 99, some 100, some 101, some 102, some 103, some 104, some 105, some 106, some 107, some 108, some 109, some 110, some 111, some 4]) (Ti := []) rfl rfl rfl rfl (fun wx hx hP => ?_)   -- 9: load 27 (tmp 14)
              have hld := ((eB 16).at_fr (f8.trans hx) _ _ hglt).trans hgat
              clear hP
              simp only [putD, List.getD_cons_zero, List.getD_cons_succ]
              go_wp2_with fail
              exact Q1.mk rfl _ rfl ⟨Fr.refl _ _, rfl, frok_no rfl⟩
            · refine ustep_mk (D := [some 98, some 99, some 100, some 101, some 102, some 103, some 104, some 105, some 106, some 107, some 108, some 109, some 110, some 111, some 4]) (Ti := []) rfl rfl rfl rfl (fun wx hx hP => ?_)   -- 10: load 27 (tmp 9)
              have hld := ((eB 16).at_fr (f8.trans hx) _ _ hgr2).trans har2
              clear hP
              simp only [putD, List.getD_cons_zero, List.getD_cons_succ]
              go_wp2_with fail
              exact Q1.mk rfl _ rfl ⟨Fr.refl _ _, rfl, frok_no rfl⟩
            have h9 : v 9 = undef := hP.1
            have h10 : v 10 = undef := hP.2.1
            have f9 : Fr0 w9 wx := f8.trans hx
            clear hx hA
            clear hP
            simp only [putD, List.getD_cons_zero, List.getD_cons_succ]
            refine reg_seq' 112 4 TT616 (by kernel_rfl) (by kernel_rfl) ?_
            simp only [List.drop_succ_cons, List.drop_zero, List.take_succ_cons, List.take_zero]
            go_wp2_with fail
            refine QR.mk ?_
            refine reg_end (by decide) ?_
            go_wp2_with fail
            go_ret
            exact ⟨by simp, Fr0.below (HFX.out.trans f9)⟩

end Go.Proofs.Ytnholkjgdpapbaa
