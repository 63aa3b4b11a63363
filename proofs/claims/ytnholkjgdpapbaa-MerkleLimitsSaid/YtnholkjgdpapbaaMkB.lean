/- Chapter 06: Leaf and Join, of the package and of the reference. No condition beyond the lengths that are named. -/
import Derived.Test.YtnholkjgdpapbaaMkA
import Derived.Test.YtnholkjgdpapbaaUno
namespace Go.Proofs.Ytnholkjgdpapbaa
set_option linter.unusedVariables false
set_option linter.unusedSimpArgs false
set_option maxRecDepth 10000
open Go.RowKit
attribute [local go_sem ↓] Go.wp_at_zero Go.wp_at_succ

/-- The last byte of a number. -/
def lowB (n : Int) : UInt8 := UInt8.ofNat (n % 256).toNat
theorem wrap_u8 (n : Int) : Value.int .u8 (IntKind.u8.wrap n) = Proofs.Ytnholkjgdpapbaa.u8 (lowB n) := by
  unfold Proofs.Ytnholkjgdpapbaa.u8 lowB
  rw [UInt8.toNat_ofNat']
  congr 1
  simp [IntKind.wrap, IntKind.bits, IntKind.signed]
  omega
def joinY (level : Int) (l r : Nd) : Nd := halfY ([1, lowB level] ++ l.1 ++ r.1)
theorem run_sl_join (w : World) (n : Int) : (bsl 22 2 #[(0, .int .u8 1), (1, .int .u8 (IntKind.u8.wrap n))]).run Try.prog w = .ok (.slice (some ⟨w.heap.size, 0, none⟩) 2 2) (w.alloc (.cells (bs [1, lowB n]).toArray 5)) := by
  rw [wrap_u8]; kernel_rfl

theorem join_flat (level : Int) (l r : Nd) : ([[1, lowB level], l.1, r.1] : List (List UInt8)).flatten = [1, lowB level] ++ l.1 ++ r.1 ∧ ([[1, lowB level], l.1, r.1] : List (List UInt8)).flatten.length = 34 := by
  constructor
  · simp
  · simp [l.2, r.2]
theorem rd_at {n : Nat} {w : World} {b : Nat} {a : By n} (h : (eB n).at_ w b 0 = some a) (hn : 0 < n) (hm : n ≤ maxLen) : Rd w (b + 1) (.slice (some ⟨b, 0, none⟩) n n) a.1 := by
  have hl := (eB n).ldA_of h
  have hlt := (eB n).at_lt h
  refine ⟨some ⟨b, 0, none⟩, n, by rw [a.2], by rw [a.2]; omega, hm, fun _ => ⟨b, 0, rfl, by omega, fun j x hj => ?_⟩⟩
  have hjn : j < n := by have := (List.getElem?_eq_some_iff.1 hj).1; rwa [a.2] at this
  rw [ldA_cell hl hjn]
  simp [eB, bs, hj]
/-- Three rows in a new slice. -/
theorem rows3 {w : World} {T : TypeId} {A0 A1 A2 : Option Addr} {c0 c1 c2 B0 B1 B2 n0 n1 n2 : Nat} {r0 r1 r2 : List UInt8} (h0 : Rd w B0 (.slice A0 n0 c0) r0) (h1 : Rd w B1 (.slice A1 n1 c1) r1) (h2 : Rd w B2 (.slice A2 n2 c2) r2) (b0 : B0 ≤ w.heap.size) (b1 : B1 ≤ w.heap.size) (b2 : B2 ≤ w.heap.size) (ob : Obj) (hob : ob = .cells #[.slice A0 n0 c0, .slice A1 n1 c1, .slice A2 n2 c2] T) :
    Rows_ (w.alloc ob) (some ⟨w.heap.size, 0, none⟩) 3 [r0, r1, r2] := by
  subst hob
  refine ⟨⟨by simp, by unfold maxLen; omega⟩, fun _ => ⟨w.heap.size, 0, rfl, by simp, fun k hk => ?_⟩⟩
  have hb := Blk.new w T #[.slice A0 n0 c0, .slice A1 n1 c1, .slice A2 n2 c2]
  have hq : w.heap.size ≤ (w.alloc (.cells #[.slice A0 n0 c0, .slice A1 n1 c1, .slice A2 n2 c2] T)).heap.size := by rw [World.size_alloc]; omega
  rw [Nat.zero_add, hb.cell k]
  obtain ⟨_, _, e0, _, _⟩ := h0.form
  obtain ⟨_, _, e1, _, _⟩ := h1.form
  obtain ⟨_, _, e2, _, _⟩ := h2.form
  injection e0 with _ e0 _
  injection e1 with _ e1 _
  injection e2 with _ e2 _
  subst e0; subst e1; subst e2
  match k, hk with
  | 0, _ => exact ⟨A0, c0, rfl, (h0.alloc _).mono (Nat.le_trans b0 hq)⟩
  | 1, _ => exact ⟨A1, c1, rfl, (h1.alloc _).mono (Nat.le_trans b1 hq)⟩
  | 2, _ => exact ⟨A2, c2, rfl, (h2.alloc _).mono (Nat.le_trans b2 hq)⟩

theorem run_sl_join' (w : World) (n : Int) : (bsl 22 2 #[(0, .int .u8 1), (1, .int .u8 (n % 256))]).run Try.prog w = .ok (.slice (some ⟨w.heap.size, 0, none⟩) 2 2) (w.alloc (.cells (bs [1, lowB n]).toArray 5)) := by
  have h := run_sl_join w n
  rwa [show IntKind.u8.wrap n = n % 256 by simp [IntKind.wrap, IntKind.bits, IntKind.signed]] at h

def TT14 : List (List Nat) := [[], [0], [0, 1], [], [], [0, 1, 2, 3, 4], [0, 1, 2, 3, 4, 5], [0, 1, 2, 3, 4, 5, 6], [0, 1, 2, 3, 4, 5, 6, 7]]

set_option maxHeartbeats 1000000 in
theorem join_any (level : Int) (l r : Nd) (w : World) :
    Calls Try.prog 14 #[.int .i64 level, (eB 16).v l, (eB 16).v r] w fun e w' => e = .returned ((eB 16).v (joinY level l r)) ∧ Fr0 w w' := by
  obtain ⟨wB, HB⟩ := nm ((eB 16).new 27 ((eB 16).new 27 ((eB 16).new 27 w l) r) z16N)
  have a0 : (eB 16).at_ wB w.heap.size 0 = some l := by rw [HB.out]; simp
  have a1 : (eB 16).at_ wB (w.heap.size + 1) 0 = some r := by rw [HB.out]; simp
  have o2 : okA wB (w.heap.size + 1 + 1) 0 16 = true := by rw [HB.out]; simp
  have hs : wB.heap.size = w.heap.size + 1 + 1 + 1 := by rw [HB.out]; simp
  have hF : Fr0 w wB := by rw [HB.out]; exact (((Fr.refl (fun _ => False) w).newE _ _ _).newE _ _ _).newE _ _ _
  have H := Lib.hid (And.intro a0 (And.intro a1 (And.intro hF (And.intro o2 hs))))
  have hle : wB.heap.size ≤ wB.drew.heap.size := Nat.le_refl _
  clear a0 a1 o2 hs hF
  go_enter Try.func14, Try.ntmps14
  go_wp2_with fail
  rw [← HB.out]
  refine reg_start (by kernel_rfl) ?_
  refine reg_uno (D := [some 7, some 8, some 9, some 10, some 11, some 12, some 13, some 14, none]) (J := [0, 1, 2, 3, 4]) 5 [] [PV (.int .i64 level), PV (.int .u8 (IntKind.u8.wrap level)), PS (wB.heap.size) 5 ((bs [1, lowB level]).toArray) 2, PV (.slice (some ⟨w.heap.size, 0, none⟩) 16 16), PV (.slice (some ⟨w.heap.size + 1, 0, none⟩) 16 16)] TT14 (by kernel_rfl) (by kernel_rfl) (by kernel_rfl) rfl rfl rfl
    (stab_cons (PV.stab _) (stab_cons (PV.stab _) (stab_cons (PS.stab _ _ _ _) (stab_cons (PV.stab _) (stab_cons (PV.stab _) stab_nil)))))
    (fun v => usteps_cons ?_ (usteps_cons ?_ (usteps_cons ?_ (usteps_cons ?_ (usteps_cons ?_ (usteps_nil)))))) (fun v wx hx hP hA => ?_)
  · refine ustep_mk (D := [some 7, some 8, some 9, some 10, some 11, some 12, some 13, some 14, none]) (Ti := []) rfl rfl rfl rfl (fun wx hx hP => ?_)   -- 0: move (tmp 0)
    clear hP
    simp only [putD, List.getD_cons_zero, List.getD_cons_succ]
    go_wp2_with fail
    exact Q1.mk rfl _ rfl ⟨Fr.refl _ _, rfl, frok_no rfl⟩
  · refine ustep_mk (D := [some 7, some 8, some 9, some 10, some 11, some 12, some 13, some 14, none]) (Ti := [0]) rfl rfl rfl rfl (fun wx hx hP => ?_)   -- 1: convert 3 5 (tmp 7)
    have h0 : v 0 = .int .i64 level := hP.1
    clear hP
    simp only [putD, List.getD_cons_zero, List.getD_cons_succ]
    go_wp2_with fail
    exact Q1.mk rfl _ rfl ⟨Fr.refl _ _, rfl, frok_no rfl⟩
  · refine ustep_mk (D := [some 7, some 8, some 9, some 10, some 11, some 12, some 13, some 14, none]) (Ti := [0, 1]) rfl rfl rfl rfl (fun wx hx hP => ?_)   -- 2: buildSlice 22 2 #[(0, const (Value.int IntKind.u8 
    have h0 : v 0 = .int .i64 level := hP.1
    have h1 : v 1 = .int .u8 (IntKind.u8.wrap level) := hP.2.1
    have hsl := fun w => run_sl_join w level
    clear hP
    simp only [putD, List.getD_cons_zero, List.getD_cons_succ]
    go_wp2_with fail
    exact Q1.mk rfl _ rfl ⟨(Fr.refl _ _).alloc _, ps_new (Nat.le_trans hle hx.size), frok_no rfl⟩
  · refine ustep_mk (D := [some 7, some 8, some 9, some 10, some 11, some 12, some 13, some 14, none]) (Ti := []) rfl rfl rfl rfl (fun wx hx hP => ?_)   -- 3: slice 27 (tmp 4) none none none
    clear hP
    simp only [putD, List.getD_cons_zero, List.getD_cons_succ]
    go_wp2_with fail
    exact Q1.mk rfl _ rfl ⟨Fr.refl _ _, rfl, frok_no rfl⟩
  · refine ustep_mk (D := [some 7, some 8, some 9, some 10, some 11, some 12, some 13, some 14, none]) (Ti := []) rfl rfl rfl rfl (fun wx hx hP => ?_)   -- 4: slice 27 (tmp 5) none none none
    clear hP
    simp only [putD, List.getD_cons_zero, List.getD_cons_succ]
    go_wp2_with fail
    exact Q1.mk rfl _ rfl ⟨Fr.refl _ _, rfl, frok_no rfl⟩
  have h0 : v 0 = .int .i64 level := hP.1
  have h1 : v 1 = .int .u8 (IntKind.u8.wrap level) := hP.2.1
  obtain ⟨g2, h2, hg2, hb2⟩ : PS (wB.heap.size) 5 ((bs [1, lowB level]).toArray) 2 (v 2) wx := hP.2.2.1
  have h3 : v 3 = .slice (some ⟨w.heap.size, 0, none⟩) 16 16 := hP.2.2.2.1
  have h4 : v 4 = .slice (some ⟨w.heap.size + 1, 0, none⟩) 16 16 := hP.2.2.2.2.1
  have hfx : Fr0 wB wx := (Fr.drew (Fr.refl _ _)).trans hx
  have hR := rows3 (w := wx) (T := 22) (Rd.of_blk hb2 2 rfl (by unfold maxLen; omega)) (rd_at (((eB 16).at_fr hfx _ _ (by have := (eB 16).at_lt H.out.1; omega)).trans H.out.1) (by omega) (by unfold maxLen; omega)) (rd_at (((eB 16).at_fr hfx _ _ (by have := (eB 16).at_lt H.out.2.1; omega)).trans H.out.2.1) (by omega) (by unfold maxLen; omega)) (by have := hb2.lt; omega) (by have := (eB 16).at_lt H.out.1; have := hfx.size; omega) (by have := (eB 16).at_lt H.out.2.1; have := hfx.size; omega) _ rfl
  have HCC := Lib.hid (concat_any [[1, lowB level], l.1, r.1] _ 3 _ hR (by rw [(join_flat level l r).2]; omega) (by simp))
  have HFX := Lib.hid hfx
  clear hx hA hR hfx hb2 hg2
  clear hP
  simp only [putD, List.getD_cons_zero, List.getD_cons_succ]
  refine reg_seq' 15 4 TT14 (by kernel_rfl) (by kernel_rfl) ?_
  simp only [List.drop_succ_cons, List.drop_zero, List.take_succ_cons, List.take_zero]
  go_wp2_with fail
  refine HCC.out.mono ?_
  rintro e w5 ⟨A2, c2, rfl, ho, hf⟩
  rw [(join_flat level l r).2, (join_flat level l r).1] at ho
  rw [(join_flat level l r).2]
  have HO := Lib.hid ho
  have HF := Lib.hid ((HFX.out.alloc _).trans hf)
  clear ho hf
  go_wp2_with fail
  refine (mhash_any _ _ _ _ HO.out.rd (by have := HO.out.len; omega)).mono ?_
  rintro e w6 ⟨rfl, hf⟩
  have ho : okA w6 (w.heap.size + 1 + 1) 0 16 = true := by rw [okA_fr (HF.out.trans hf) _ _ _ (by have := H.out.2.2.2.2; omega)]; exact H.out.2.2.2.1
  have HF6 := Lib.hid (HF.out.trans hf)
  clear hf
  go_wp2_with fail
  refine QR.mk ?_
  refine reg_end (by decide) ?_
  go_wp2_with fail
  exact fin_E (eB 16) rfl Try.underlying27 rfl einfo_bulletin_merkle_Node (by rfl) rfl ho ⟨rfl, (H.out.2.2.1.trans HF6.out).fin _ (by omega) _ _⟩


/-! Leaves. -/
def idx32 (i : Int) : UInt32 := UInt32.ofNat (i % 4294967296).toNat
theorem idx32_v (i : Int) : Value.int .u32 (i % 4294967296) = Proofs.Ytnholkjgdpapbaa.u32 (idx32 i) := by
  unfold Proofs.Ytnholkjgdpapbaa.u32 idx32
  rw [UInt32.toNat_ofNat']
  congr 1
  omega
def hdB (x : UInt32) : List UInt8 := [0, (x >>> 24).toUInt8, (x >>> 16).toUInt8, (x >>> 8).toUInt8, x.toUInt8]
def leafY (i : Int) (b : List UInt8) : Nd := halfY (hdB (idx32 i) ++ b)
theorem run_sl_5 (w : World) (a b c d : UInt8) : (bsl 22 5 #[(0, .int .u8 0), (1, Proofs.Ytnholkjgdpapbaa.u8 a), (2, Proofs.Ytnholkjgdpapbaa.u8 b), (3, Proofs.Ytnholkjgdpapbaa.u8 c), (4, Proofs.Ytnholkjgdpapbaa.u8 d)]).run Try.prog w = .ok (.slice (some ⟨w.heap.size, 0, none⟩) 5 5) (w.alloc (.cells (bs [0, a, b, c, d]).toArray 5)) := by kernel_rfl
theorem OwnB.new (w : World) (l : List UInt8) (n : Nat) (hn : l.length = n) (hm : n ≤ 1000000) : OwnB (w.alloc (.cells (bs l).toArray 5)) w.heap.size (some ⟨w.heap.size, 0, none⟩) n n l :=
  ⟨⟨by simp [hn], .inr ⟨w.heap.size, n, (bs l).toArray, rfl, Nat.le_refl _, alloc_heap_new w _, Nat.le_refl _, by unfold maxLen; omega, by simp [hn], by simp; exact List.take_of_length_le (by simp [hn])⟩⟩, hn⟩


set_option maxHeartbeats 1000000 in
theorem leaf_any (i : Int) (l : List UInt8) (B : Nat) (v : Value) (w : World) (hs : Rd w B v l) (hl : l.length ≤ 1000000) :
    Calls Try.prog 12 #[.int .i64 i, v] w fun e w' => e = .returned ((eB 16).v (leafY i l)) ∧ Fr0 w w' := by
  obtain ⟨A, c, rfl, h1, h2⟩ := hs.form
  obtain ⟨wB, HB⟩ := nm ((eB 16).new 27 w z16N)
  have hF : Fr0 w wB := by rw [HB.out]; exact (Fr.refl (fun _ => False) w).newE _ _ _
  have o2 : okA wB w.heap.size 0 16 = true := by rw [HB.out]; simp
  have hz : w.heap.size < wB.heap.size := by rw [HB.out]; simp
  have hx := idx32_v i
  have hsl := run_sl_5
  unfold leafY
  obtain ⟨x, HX⟩ := nm (idx32 i)
  rw [← HX.out] at hx ⊢
  obtain ⟨L, HL⟩ := nm l.length
  have hr := hs
  rw [← HL.out] at hr
  have ho := (OwnB.new wB (hdB x) 5 rfl (by omega)).app ((Fr.refl (fun _ => False) wB).alloc _) rfl ((hr.fr0 hF).alloc _) (by have := HL.out; omega)
  obtain ⟨A2, c2, w3, hrun, ho3, hf3, q1, q2⟩ := ho
  have H := Lib.hid (And.intro ho3 (And.intro hf3 (And.intro hF (And.intro o2 hz))))
  rw [← HL.out]
  rw [← HL.out] at h1
  clear ho3 hf3 hF o2 hs hr hz
  unfold hdB at hrun
  rw [HB.out] at hrun
  simp only [Enc.new_size] at hrun
  go_enter Try.func12, Try.ntmps12
  go_wp2_with fail
  refine (mhash_any _ _ _ _ H.out.1.rd (by have := H.out.1.len; have := HL.out; omega)).mono ?_
  rintro e w6 ⟨rfl, hf⟩
  have ho : okA w6 w.heap.size 0 16 = true := by rw [okA_fr (H.out.2.1.trans hf) _ _ _ H.out.2.2.2.2]; exact H.out.2.2.2.1
  have HF6 := Lib.hid (H.out.2.1.trans hf)
  clear hf
  go_wp2_with fail
  exact fin_E (eB 16) rfl Try.underlying27 rfl einfo_bulletin_merkle_Node (by rfl) rfl ho ⟨rfl, (H.out.2.2.1.trans HF6.out).fin _ (Nat.le_refl _) _ _⟩

set_option maxHeartbeats 1000000 in
theorem rleaf_any (i : Int) (l : List UInt8) (B : Nat) (v : Value) (w : World) (hs : Rd w B v l) (hl : l.length ≤ 1000000) :
    Calls Try.prog 13 #[.int .i64 i, v] w fun e w' => e = .returned ((eB 16).v (leafY i l)) ∧ Fr0 w w' := by
  obtain ⟨A, c, rfl, h1, h2⟩ := hs.form
  obtain ⟨wB, HB⟩ := nm ((eB 16).new 24 w z16N)
  have hF : Fr0 w wB := by rw [HB.out]; exact (Fr.refl (fun _ => False) w).newE _ _ _
  have o2 : okA wB w.heap.size 0 16 = true := by rw [HB.out]; simp
  have hz : w.heap.size < wB.heap.size := by rw [HB.out]; simp
  have hx := idx32_v i
  have hsl := run_sl_5
  unfold leafY
  obtain ⟨x, HX⟩ := nm (idx32 i)
  rw [← HX.out] at hx ⊢
  obtain ⟨L, HL⟩ := nm l.length
  have hr := hs
  rw [← HL.out] at hr
  have ho := (OwnB.new wB (hdB x) 5 rfl (by omega)).app ((Fr.refl (fun _ => False) wB).alloc _) rfl ((hr.fr0 hF).alloc _) (by have := HL.out; omega)
  obtain ⟨A2, c2, w3, hrun, ho3, hf3, q1, q2⟩ := ho
  have H := Lib.hid (And.intro ho3 (And.intro hf3 (And.intro hF (And.intro o2 hz))))
  rw [← HL.out]
  rw [← HL.out] at h1
  clear ho3 hf3 hF o2 hs hr hz
  unfold hdB at hrun
  rw [HB.out] at hrun
  simp only [Enc.new_size] at hrun
  go_enter Try.func13, Try.ntmps13
  go_wp2_with fail
  refine (rhalf6_any _ _ _ _ H.out.1.rd (by have := H.out.1.len; have := HL.out; omega)).mono ?_
  rintro e w6 ⟨rfl, hf⟩
  have ho : okA w6 w.heap.size 0 16 = true := by rw [okA_fr (H.out.2.1.trans hf) _ _ _ H.out.2.2.2.2]; exact H.out.2.2.2.1
  have HF6 := Lib.hid (H.out.2.1.trans hf)
  clear hf
  go_wp2_with fail
  exact fin_E (eB 16) rfl Try.underlying24 rfl einfo_bulletin_bulletinref06_N (by rfl) rfl ho ⟨rfl, (H.out.2.2.1.trans HF6.out).fin _ (Nat.le_refl _) _ _⟩

/-! The reference's Join. -/
theorem take_snoc {l : List UInt8} {k : Nat} {x : UInt8} (h : l[k]? = some x) : l.take (k + 1) = l.take k ++ [x] := by
  obtain ⟨hk, rfl⟩ := List.getElem?_eq_some_iff.1 h
  exact List.take_succ_eq_append_getElem hk
theorem cell_at {n : Nat} {w : World} {b : Nat} {a : By n} (h : (eB n).at_ w b 0 = some a) (k : Nat) (x : UInt8) (hx : a.1[k]? = some x) : w.cell? ⟨b, k, none⟩ = some (Proofs.Ytnholkjgdpapbaa.u8 x) := by
  have hk : k < n := by have := (List.getElem?_eq_some_iff.1 hx).1; rwa [a.2] at this
  have := ldA_cell ((eB n).ldA_of h) hk
  rw [Nat.zero_add] at this
  rw [this]; simp [eB, bs, hx]
set_option maxHeartbeats 1000000 in
theorem rjoin_any (level : Int) (l r : Nd) (w : World) :
    Calls Try.prog 15 #[.int .i64 level, (eB 16).v l, (eB 16).v r] w fun e w' => e = .returned ((eB 16).v (joinY level l r)) ∧ Fr0 w w' := by
  obtain ⟨wB, HB⟩ := nm ((eB 16).new 24 ((eB 16).new 24 ((eB 16).new 24 w l) r) z16N)
  have a0 : (eB 16).at_ wB w.heap.size 0 = some l := by rw [HB.out]; simp
  have a1 : (eB 16).at_ wB (w.heap.size + 1) 0 = some r := by rw [HB.out]; simp
  have o2 : okA wB (w.heap.size + 1 + 1) 0 16 = true := by rw [HB.out]; simp
  have hs : wB.heap.size = w.heap.size + 1 + 1 + 1 := by rw [HB.out]; simp
  have hF : Fr0 w wB := by rw [HB.out]; exact (((Fr.refl (fun _ => False) w).newE _ _ _).newE _ _ _).newE _ _ _
  have H := Lib.hid (And.intro a0 (And.intro a1 (And.intro hF (And.intro o2 hs))))
  clear a0 a1 o2 hs hF
  have hsl := fun w => run_sl_join' w level
  go_enter Try.func15, Try.ntmps15
  go_wp2_with fail
  rw [← HB.out]
  clear hsl HB
  go_loopw [7, 8] (fun v i wr => ∃ k L A c, k ≤ 16 ∧ i = .int .i64 (k : Nat) ∧ v = .slice A L c ∧ L ≤ c ∧ c ≤ maxLen ∧ L = 2 + k ∧ RowKit.Hid (OwnB wr (w.heap.size + 1 + 1 + 1) A c L ([1, lowB level] ++ l.1.take k)) ∧ RowKit.Hid (Fr0 wB wr)) (fun _ i _ => 16 - (intOf i).toNat)
  case atStart => exact ⟨0, 2, _, _, by omega, rfl, rfl, by omega, by unfold maxLen; omega, rfl, Lib.hid (by have := OwnB.new wB [1, lowB level] 2 rfl (by omega); rw [H.out.2.2.2.2] at this; simpa using this), Lib.hid ((Fr.refl _ _).alloc _)⟩
  case round =>
    obtain ⟨k, L, A, c, hk, rfl, rfl, hc1, hc2, rfl, HO, HF⟩ := hrel
    by_cases hlt : k < 16
    · obtain ⟨x, hx⟩ : ∃ x, l.1[k]? = some x := ⟨_, List.getElem?_eq_getElem (by rw [l.2]; omega)⟩
      have hc := (HF.out.cell (p := ⟨w.heap.size, k, none⟩) ((eB 16).at_lt H.out.1) (fun h => h)).trans (cell_at H.out.1 k x hx)
      obtain ⟨A2, c2, w2, hrun, ho2, hf2, q1, q2⟩ := (HO.out.fr0 ((Fr.refl _ _).alloc _)).app (HF.out.alloc _) H.out.2.2.2.2.symm (sl_bs1 wr x) (by omega)
      have HT := Lib.hid (take_snoc hx)
      have HO2 := Lib.hid ho2
      have HF2 := Lib.hid hf2
      have z0 : (k : Int) < 16 := by omega
      clear hx ho2 hf2
      go_wp2_with fail
      go_roundw
      case rel => exact ⟨k + 1, 2 + k + 1, A2, c2, by omega, by go_num, rfl, q1, q2, by omega, Lib.hid (by rw [HT.out, ← List.append_assoc]; exact HO2.out), HF2⟩
      case measure => simp [intOf]; omega
    · obtain rfl : k = 16 := by omega
      have ho1 : OwnB wr (w.heap.size + 1 + 1 + 1) A c 18 ([1, lowB level] ++ l.1) := by
        have := HO.out
        rwa [List.take_of_length_le (by rw [l.2]; omega)] at this
      have HO1 := Lib.hid ho1
      clear ho1 HO
      go_wp2_with fail
      go_loopw [7, 9] (fun v i ws => ∃ k L A c, k ≤ 16 ∧ i = .int .i64 (k : Nat) ∧ v = .slice A L c ∧ L ≤ c ∧ c ≤ maxLen ∧ L = 18 + k ∧ RowKit.Hid (OwnB ws (w.heap.size + 1 + 1 + 1) A c L ([1, lowB level] ++ l.1 ++ r.1.take k)) ∧ RowKit.Hid (Fr0 wB ws)) (fun _ i _ => 16 - (intOf i).toNat)
      case atStart => exact ⟨0, 18, _, _, by omega, rfl, rfl, hc1, hc2, rfl, Lib.hid (by simpa using HO1.out), HF⟩
      case round =>
        obtain ⟨k, L, A, c, hk, rfl, rfl, hc1, hc2, rfl, HO, HF⟩ := hrel
        by_cases hlt : k < 16
        · obtain ⟨x, hx⟩ : ∃ x, r.1[k]? = some x := ⟨_, List.getElem?_eq_getElem (by rw [r.2]; omega)⟩
          have hc := (HF.out.cell (p := ⟨w.heap.size + 1, k, none⟩) ((eB 16).at_lt H.out.2.1) (fun h => h)).trans (cell_at H.out.2.1 k x hx)
          obtain ⟨A2, c2, w2, hrun, ho2, hf2, q1, q2⟩ := (HO.out.fr0 ((Fr.refl _ _).alloc _)).app (HF.out.alloc _) H.out.2.2.2.2.symm (sl_bs1 wr x) (by omega)
          have HT := Lib.hid (take_snoc hx)
          have HO2 := Lib.hid ho2
          have HF2 := Lib.hid hf2
          have z0 : (k : Int) < 16 := by omega
          clear hx ho2 hf2
          go_wp2_with fail
          go_roundw
          case rel => exact ⟨k + 1, 18 + k + 1, A2, c2, by omega, by go_num, rfl, q1, q2, by omega, Lib.hid (by rw [HT.out, ← List.append_assoc]; exact HO2.out), HF2⟩
          case measure => simp [intOf]; omega
        · obtain rfl : k = 16 := by omega
          have ho1 : OwnB wr (w.heap.size + 1 + 1 + 1) A c 34 ([1, lowB level] ++ l.1 ++ r.1) := by
            have := HO.out
            rwa [List.take_of_length_le (by rw [r.2]; omega)] at this
          have HO2 := Lib.hid ho1
          clear ho1 HO
          go_wp2_with fail
          refine (rhalf6_any _ _ _ _ HO2.out.rd (by have := HO2.out.len; omega)).mono ?_
          rintro e w6 ⟨rfl, hf⟩
          have ho : okA w6 (w.heap.size + 1 + 1) 0 16 = true := by rw [okA_fr (HF.out.trans hf) _ _ _ (by have := H.out.2.2.2.2; omega)]; exact H.out.2.2.2.1
          have HF6 := Lib.hid (HF.out.trans hf)
          clear hf
          go_wp2_with fail
          exact fin_E (eB 16) rfl Try.underlying24 rfl einfo_bulletin_bulletinref06_N (by rfl) rfl ho ⟨rfl, (H.out.2.2.1.trans HF6.out).fin _ (by omega) _ _⟩
end Go.Proofs.Ytnholkjgdpapbaa
