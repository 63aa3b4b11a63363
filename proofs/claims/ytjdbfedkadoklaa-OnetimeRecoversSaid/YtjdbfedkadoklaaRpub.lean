/- One-time signatures: the reference's Compress, All, Values, Last; the law's 'to'. Printed by gen_rpub.py. No condition beyond the ranges that are named. -/
import Derived.Test.YtjdbfedkadoklaaPub
namespace Go.Proofs.Ytjdbfedkadoklaa
set_option linter.unusedVariables false
set_option linter.unusedSimpArgs false
set_option maxRecDepth 10000
open Go.RowKit
attribute [local go_sem ↓] Go.wp_at_zero Go.wp_at_succ

def valF (seed : List UInt8) (leaf : Nat) (sg : Nat → Nat) (c : Nat) : List UInt8 := advB leaf c 0 (sg c - 0) (secB seed leaf c)
theorem valF_length (seed : List UInt8) (leaf : Nat) (sg : Nat → Nat) (c : Nat) : (valF seed leaf sg c).length = 16 := advB_length _ _ _ _ _ (secB_length _ _ _)
/-- The first n values replaced. -/
def mixF (f : Nat → List UInt8) (s : List UInt8) (n : Nat) : List UInt8 := catF f n ++ s.drop (n * 16)
theorem mixF_length (f : Nat → List UInt8) (h : ∀ c, (f c).length = 16) {s : List UInt8} (hs : s.length = 560) (n : Nat) (hn : n ≤ 35) : (mixF f s n).length = 560 := by
  simp [mixF, catF_length f h, hs]; omega
theorem mixF_seg (f : Nat → List UInt8) (h : ∀ c, (f c).length = 16) (s : List UInt8) (n : Nat) : seg (mixF f s n) n = seg s n := by
  unfold seg mixF
  rw [List.drop_append, List.drop_of_length_le (by rw [catF_length f h]; omega), List.nil_append, catF_length f h, Nat.sub_self, List.drop_zero]
theorem putAt_bs (A B C : List UInt8) (h : C.length ≤ B.length) : putAt (bs (A ++ B)).toArray A.length (bs C).toArray = (bs (A ++ C ++ B.drop C.length)).toArray := by
  apply Array.toList_inj.1
  have e1 : ((bs (A ++ B)).toArray.extract 0 A.length).toList = bs A := by
    simp [bs, List.extract_eq_take_drop]
  have e2 : ((bs (A ++ B)).toArray.extract (A.length + (bs C).toArray.size) (bs (A ++ B)).toArray.size).toList = bs (B.drop C.length) := by
    rw [Array.toList_extract, List.extract_eq_take_drop]
    simp only [bs, List.map_append, List.size_toArray, List.length_map]
    rw [List.drop_append, List.drop_of_length_le (by simp), List.nil_append, List.length_map, show A.length + C.length - A.length = C.length by omega, ← List.map_drop]
    exact List.take_of_length_le (by simp; omega)
  simp only [putAt, Array.toList_append, e1, e2]
  simp [bs]
theorem mixF_put (f : Nat → List UInt8) (h : ∀ c, (f c).length = 16) {s : List UInt8} (hs : s.length = 560) (n : Nat) (hn : n < 35) : putAt (bs (mixF f s n)).toArray (n * 16) (bs (f n)).toArray = (bs (mixF f s (n + 1))).toArray := by
  have h1 := catF_length f h n
  have h2 := h n
  have := putAt_bs (catF f n) (s.drop (n * 16)) (f n) (by rw [h2, List.length_drop, hs]; omega)
  rw [h1, h2, List.drop_drop, show n * 16 + 16 = (n + 1) * 16 by omega] at this
  exact this
theorem zt560v : zeroTail Try.prog 56 0 = (bs (List.replicate 560 0)).toArray := by kernel_rfl
/-- Bytes inside a block. -/
theorem Rd.of_blk_at {w : World} {b o n : Nat} {t : TypeId} {l : List UInt8} (h : Blk w b t (bs l).toArray) (ho : o + n ≤ l.length) (hm : n ≤ maxLen) : Rd w (b + 1) (.slice (some ⟨b, o, none⟩) n n) ((l.drop o).take n) := by
  have hl : ((l.drop o).take n).length = n := by simp; omega
  refine ⟨some ⟨b, o, none⟩, n, by rw [hl], by omega, hm, fun _ => ⟨b, o, rfl, Nat.lt_succ_self _, fun j x hj => ?_⟩⟩
  rw [h.cell (o + j)]
  rw [List.getElem?_take] at hj
  split at hj
  · rw [List.getElem?_drop] at hj
    simp [bs, hj]
  · cases hj

set_option maxHeartbeats 1000000 in
theorem rall_any (n : Nat) (w : World) : Calls Try.prog 31 #[.int .i64 (n : Int)] w fun e w' => e = .returned (.agg (nis ((List.range 35).map fun _ => n))) ∧ Fr0 w w' := by
  have hZs := zt__35_int
  obtain ⟨w2, HW2⟩ := nm ((w.alloc (.cells (zeroTail Try.prog 27 0) 27)).alloc (.cells (zeroTail Try.prog 27 0) 27))
  obtain ⟨hb0, hb1, hf2, hs⟩ := alloc2 _ _ _ _ _ _ HW2.out
  rw [zt35] at hb1
  have H2 := Lib.hid (And.intro hb0 (And.intro hb1 hf2))
  clear hb0 hb1 hf2 hs
  go_enter Try.func31, Try.ntmps31
  go_wp2_with fail
  rw [← HW2.out]
  obtain ⟨Z, HZ⟩ := nm (zeroTail Try.prog 27 0)
  rw [← HZ.out] at hZs H2
  clear HW2
  go_loopw [4] (fun i wr => ∃ k : Nat, k ≤ 35 ∧ i = .int .i64 k ∧ Blk wr w.heap.size 27 Z ∧ Blk wr (w.heap.size + 1) 27 (nis ((List.range k).map (fun _ => n) ++ List.replicate (35 - k) 0)) ∧ Fr0 w wr) (fun i _ => 35 - (intOf i).toNat)
  case atStart => exact ⟨0, by omega, rfl, H2.out.1, H2.out.2.1, H2.out.2.2⟩
  case round =>
    obtain ⟨k, hk, rfl, h0, h1, hf⟩ := hrel
    by_cases hlt : k < 35
    · have z0 : (k : Int) < 35 := by omega
      have z1 : (0 : Int) ≤ (k : Int) := by omega
      obtain ⟨y, hy⟩ : ∃ y, (nis ((List.range k).map (fun _ => n) ++ List.replicate (35 - k) 0))[k]? = some y := ⟨_, Array.getElem?_eq_getElem (by simp; omega)⟩
      have c1 : wr.cell? ⟨w.heap.size + 1, k, none⟩ = some y := (h1.cell k).trans hy
      have f1 := h1.frozen k
      have n1 := h1.set_ k (iv n)
      rw [setA (v := fun _ => n) hlt] at n1
      have n0 := h0.far (p := ⟨w.heap.size + 1, k, none⟩) (by dsimp only; omega) (iv n)
      have nf := hf.setCell (p := ⟨w.heap.size + 1, k, none⟩) (fun h => by dsimp only at h; omega) (iv n)
      have N := Lib.hid (And.intro n0 (And.intro n1 nf))
      clear h0 h1 hf hy n0 n1 nf
      go_wp2_with fail
      clear c1 f1
      go_roundw
      case rel =>
        first
        | exact ⟨k + 1, by omega, by go_num, N.out⟩
        | ((repeat apply Exists.intro); exact ⟨⟨k + 1, by omega, by go_num, N.out⟩, rfl⟩)
      case measure => simp [intOf]; omega
    · have hk35 : k = 35 := by omega
      subst hk35
      rw [show (List.range 35).map (fun _ => n) ++ List.replicate (35 - 35) 0 = (List.range 35).map (fun _ => n) by simp] at h1
      have hone := nis_one ((List.range 35).map (fun _ => n))
      have hsY : (nis ((List.range 35).map (fun _ => n))).size = 35 := by simp
      obtain ⟨Y, HY⟩ := nm (nis ((List.range 35).map (fun _ => n)))
      rw [← HY.out] at h1 hone hsY
      have hld := h1.all hsY
      obtain ⟨hok, hput, hfin⟩ := fin_agg (n := 35) (cs := Y) h0 hf (by omega) hZs hsY
      have HP := Lib.hid (And.intro hput hfin)
      clear h0 h1 hf hput hfin
      go_wp2_with fail
      refine bodyPost_agg (n := 35) (cs := Y) rfl Try.underlying27 rfl info__35_int (by rfl) ?_ rfl ?_
      · exact HP.out.1
      · exact ⟨by rw [HY.out], HP.out.2⟩

set_option maxHeartbeats 1000000 in
theorem to_any (s : By 560) (w : World) : Calls Try.prog 27 #[.agg (bs s.1).toArray] w fun e w' => e = .returned (.agg (bs s.1).toArray) ∧ Fr0 w w' := by
  have hsg : (bs s.1).toArray.size = 560 := by simp [s.2]
  obtain ⟨G, HG⟩ := nm (bs s.1).toArray
  rw [← HG.out] at hsg ⊢
  have hZs := zt__35_bulletinref07_Value
  have hfl : ∀ c, ((fun c => if c < 35 then seg s.1 c else List.replicate 16 0) c).length = 16 := fun c => by
    show (if c < 35 then seg s.1 c else List.replicate 16 0).length = 16
    split
    · exact seg_length s.2 (by assumption)
    · simp
  obtain ⟨f, HF⟩ := nm (fun c => if c < 35 then seg s.1 c else List.replicate 16 0)
  rw [← HF.out] at hfl
  obtain ⟨w3, HW3⟩ := nm (((w.alloc (.cells G 52)).alloc (.cells (zeroTail Try.prog 56 0) 56)).alloc (.cells (zeroTail Try.prog 56 0) 56))
  obtain ⟨hb0, hb1, hb2, hf3, -⟩ := alloc3 w 52 56 56 G (zeroTail Try.prog 56 0) (zeroTail Try.prog 56 0)
  rw [← HW3.out] at hb0 hb1 hb2 hf3
  rw [zt560v, ← preF_zero f] at hb2
  have H3 := Lib.hid (And.intro hb0 (And.intro hb1 (And.intro hb2 hf3)))
  clear hb0 hb1 hb2 hf3
  go_enter Try.func27, Try.ntmps27
  go_wp2_with fail
  rw [← HW3.out]
  obtain ⟨Z, HZ⟩ := nm (zeroTail Try.prog 56 0)
  rw [← HZ.out] at hZs H3
  clear HW3
  go_loopw [4] (fun i wr => ∃ k : Nat, k ≤ 35 ∧ i = .int .i64 k ∧ Blk wr w.heap.size 52 G ∧ Blk wr (w.heap.size + 1) 56 Z ∧ Blk wr (w.heap.size + 2) 56 (bs (preF f k)).toArray ∧ Fr0 w wr) (fun i _ => 35 - (intOf i).toNat)
  case atStart => exact ⟨0, by omega, rfl, H3.out.1, H3.out.2.1, H3.out.2.2.1, H3.out.2.2.2⟩
  case round =>
    obtain ⟨k, hk, rfl, h0, h1, h2, hf⟩ := hrel
    by_cases hlt : k < 35
    · have z0 : (k : Int) < 35 := by omega
      have z1 : (0 : Int) ≤ (k : Int) := by omega
      have e1 : f k = seg s.1 k := by rw [HF.out]; show (if k < 35 then seg s.1 k else List.replicate 16 0) = _; rw [if_pos hlt]
      have hld : ldA wr w.heap.size (k * 16) 16 = some (bs (f k)).toArray := by rw [h0.ldA (k * 16) 16 (by omega), HG.out, seg_extract, e1]
      have hst : ∀ (w : World) (b o : Nat), okA w b o 16 = true → (st 36 (.pointer (some ⟨b, o, none⟩)) (.agg (bs (f k)).toArray)).run Try.prog w = .ok () (putW w b o (bs (f k)).toArray) := fun w b o h => rv_st ⟨f k, hfl k⟩ w b o h
      have hok := h2.okA (k * 16) 16 (by simp [preF_length f hfl k (by omega)]; omega)
      have n2 := h2.put (k * 16) (bs (f k)).toArray
      rw [preF_put f hfl k hlt] at n2
      have n0 := h0.putFar (b := w.heap.size + 2) (by omega) (k * 16) (bs (f k)).toArray
      have n1 := h1.putFar (b := w.heap.size + 2) (by omega) (k * 16) (bs (f k)).toArray
      have nf := hf.put (b := w.heap.size + 2) (S := fun _ => False) (fun h => by omega) (k * 16) (bs (f k)).toArray
      have N := Lib.hid (And.intro n0 (And.intro n1 (And.intro n2 nf)))
      clear h0 h1 h2 hf n0 n1 n2 nf e1
      go_wp2_with fail
      clear hst hok hld
      go_roundw
      case rel =>
        first
        | exact ⟨k + 1, by omega, by go_num, N.out⟩
        | ((repeat apply Exists.intro); exact ⟨⟨k + 1, by omega, by go_num, N.out⟩, rfl⟩)
      case measure => simp [intOf]; omega
    · have hk35 : k = 35 := by omega
      subst hk35
      have hcat : ∀ n, n ≤ 35 → catF f n = s.1.take (n * 16) := by
        intro n
        induction n with
        | zero => intro _; simp [catF]
        | succ n ih =>
          intro hn
          rw [catF, ih (by omega), HF.out]
          show _ ++ (if n < 35 then seg s.1 n else List.replicate 16 0) = _
          rw [if_pos (by omega)]
          exact seg_take s.2 (by omega)
      rw [preF_all f, hcat 35 (Nat.le_refl _), List.take_of_length_le (by rw [s.2]; omega), ← HG.out] at h2
      have hone : one1 G = true := by rw [HG.out]; exact all_one (bs_one' _)
      have hld := h2.all hsg
      obtain ⟨hok, hput, hfin⟩ := fin_agg (n := 560) (cs := G) h1 hf (by omega) hZs hsg
      have HP := Lib.hid (And.intro hput hfin)
      clear h0 h1 h2 hf hput hfin hcat
      go_wp2_with fail
      refine bodyPost_agg (n := 560) (cs := G) rfl Try.underlying56 rfl info__35_bulletinref07_Value (by rfl) ?_ rfl ?_
      · exact HP.out.1
      · exact ⟨rfl, HP.out.2⟩

set_option maxHeartbeats 2000000 in
theorem rcompress_any (leaf : Nat) (hl : leaf ≤ 65535) (s : By 560) (w : World) : Calls Try.prog 25 #[.int .i64 (leaf : Int), .agg (bs s.1).toArray] w fun e w' => e = .returned (.agg (bs (compB leaf s.1)).toArray) ∧ Fr0 w w' := by
  have hsg : (bs s.1).toArray.size = 560 := by simp [s.2]
  obtain ⟨G, HG⟩ := nm (bs s.1).toArray
  rw [← HG.out] at hsg ⊢
  obtain ⟨w2, HW2⟩ := nm ((w.alloc (.cells G 56)).alloc (.cells z16 36))
  obtain ⟨hb0, hb1, hf2, hs⟩ := alloc2 _ _ _ _ _ _ HW2.out
  have H2 := Lib.hid (And.intro hb0 (And.intro hb1 (And.intro hf2 hs)))
  clear hb0 hb1 hf2 hs
  go_enter Try.func25, Try.ntmps25
  go_wp2_with fail
  rw [← HW2.out]
  refine (rhead_any 4 leaf hl _).mono ?_
  rintro e w3 ⟨rfl, hw3⟩
  have HO := Lib.hid (show w3.ownsRow (w.heap.size + 2) 5 1 (.slice (some ⟨w2.heap.size, 0, none⟩) 5 5) (headB 4 leaf ++ s.1.take (0 * 16)).length (bs (headB 4 leaf ++ s.1.take (0 * 16))) from by
    rw [hw3, show headB 4 leaf ++ s.1.take (0 * 16) = headB 4 leaf by simp]
    exact own_mono (own_bsN w2 (headB 4 leaf) 5 rfl (by omega)) (by rw [H2.out.2.2.2]; exact Nat.le_refl _))
  have H3 := Lib.hid (show Blk w3 w.heap.size 56 G ∧ Blk w3 (w.heap.size + 1) 36 z16 ∧ Fr0 w w3 ∧ w.heap.size + 2 ≤ w3.heap.size from by
    rw [hw3]
    exact ⟨H2.out.1.alloc _, H2.out.2.1.alloc _, H2.out.2.2.1.alloc _, by have := H2.out.2.2.2; simp; omega⟩)
  clear hw3
  go_wp2_with fail
  clear HW2
  go_loopw [5, 6] (fun v i wr => ∃ k : Nat, k ≤ 35 ∧ i = .int .i64 k ∧ wr.ownsRow (w.heap.size + 2) 5 1 v (headB 4 leaf ++ s.1.take (k * 16)).length (bs (headB 4 leaf ++ s.1.take (k * 16))) ∧ Blk wr w.heap.size 56 G ∧ Blk wr (w.heap.size + 1) 36 z16 ∧ Fr0 w wr ∧ w.heap.size + 2 ≤ wr.heap.size) (fun _ i _ => 35 - (intOf i).toNat)
  case atStart => exact ⟨0, by omega, rfl, HO.out, H3.out⟩
  case round =>
    obtain ⟨k, hk, rfl, hown, h0, h1, hf, hsz2⟩ := hrel
    obtain ⟨A, c, rfl, hc1, hc2⟩ := own_form hown
    have hlen : (headB 4 leaf ++ s.1.take (k * 16)).length = 5 + k * 16 := by rw [List.length_append, headB_length, List.length_take, s.2]; omega
    rw [hlen] at hown hc1 ⊢
    by_cases hlt : k < 35
    · have z0 : (k : Int) < 35 := by omega
      have z1 : (0 : Int) ≤ (k : Int) := by omega
      have hx := seg_length s.2 hlt
      have hrd : Rd wr (w.heap.size + 1) (.slice (some ⟨w.heap.size, k * 16, none⟩) 16 16) (seg s.1 k) := Rd.of_blk_at (by rw [← HG.out]; exact h0) (by rw [s.2]; omega) (by unfold maxLen; omega)
      obtain ⟨A2, c2, w4, hrun, hown4, hG, hge, -⟩ := app_by wr (show wr.ownsRow (w.heap.size + 2) 5 1 (.slice A (5 + k * 16) c) (headB 4 leaf ++ s.1.take (k * 16)).length (bs (headB 4 leaf ++ s.1.take (k * 16))) from by rw [hlen]; exact hown) hrd (by omega) hsz2
      rw [List.append_assoc, seg_take s.2 hlt] at hrun hown4
      have hl2 : (headB 4 leaf ++ s.1.take ((k + 1) * 16)).length = 5 + (k + 1) * 16 := by rw [List.length_append, headB_length, List.length_take, s.2]; omega
      rw [hl2] at hrun
      have hf4 := hf.then_ hG (fun i hi hk => by have := hge i hk; omega)
      have h04 := h0.fr hG (fun e => by have := hge _ e; omega)
      have h14 := h1.fr hG (fun e => by have := hge _ e; omega)
      have N := Lib.hid (And.intro hown4 (And.intro h04 (And.intro h14 (And.intro hf4 (Nat.le_trans hsz2 hG.size)))))
      have HL := Lib.hid hl2
      clear hown hsz2 h0 h1 hf hc1 hc2 hlen hx hrd hown4 hG hge hf4 h04 h14 hl2
      go_wp2_with fail
      clear hrun
      go_roundw
      case rel =>
        exact ⟨k + 1, by omega, by go_num, by have h := N.out.1; rw [HL.out] at h ⊢; exact h, N.out.2⟩
      case measure => simp [intOf]; omega
    · have hk35 : k = 35 := by omega
      subst hk35
      have hall : s.1.take (35 * 16) = s.1 := List.take_of_length_le (by rw [s.2]; omega)
      rw [hall] at hown
      have hrd : Rd wr wr.heap.size (.slice A (5 + 35 * 16) c) (headB 4 leaf ++ s.1) := Sl.rd (Sl.of_own hown)
      have HH := Lib.hid (rv_half (headB 4 leaf ++ s.1) _ _ wr hrd (by rw [List.length_append, headB_length, s.2]; omega))
      have K := Lib.hid (And.intro h1 hf)
      clear hown hrd h0 h1 hf hsz2 hlen hall hc1 hc2
      go_wp2_with fail
      refine HH.out.mono ?_
      rintro e w5 ⟨rfl, hf5⟩
      rw [show halfB (headB 4 leaf ++ s.1) = compB leaf s.1 from rfl]
      have hst2 := rv_st ⟨compB leaf s.1, compB_length _ _⟩
      change ∀ (w : World) (b' p : Nat), okA w b' p 16 = true → (st 36 (.pointer (some ⟨b', p, none⟩)) (.agg (bs (compB leaf s.1)).toArray)).run Try.prog w = .ok () (putW w b' p (bs (compB leaf s.1)).toArray) at hst2
      have hys : (bs (compB leaf s.1)).toArray.size = 16 := by simp [compB_length]
      obtain ⟨Y, HY⟩ := nm (bs (compB leaf s.1)).toArray
      rw [← HY.out] at hst2 hys ⊢
      obtain ⟨hok, hput, hfin⟩ := fin_agg (n := 16) (cs := Y) (K.out.1.fr hf5 (fun h => h)) (K.out.2.trans hf5) (by omega) rfl hys
      have HP := Lib.hid (And.intro hput hfin)
      clear hf5 hput hfin
      go_wp2_with fail
      refine bodyPost_agg (n := 16) (cs := Y) rfl Try.underlying36 rfl info_bulletin_bulletinref07_Value (by rfl) ?_ rfl ?_
      · exact HP.out.1
      · exact ⟨by rw [HY.out], HP.out.2⟩

def TT30 : List (List Nat) := [[], [], [], [], [3], [3, 4], [], [], [], [6, 7, 8], [1, 2, 3, 4, 5, 6, 7, 8, 9], [0, 1, 2, 3, 4, 5, 6, 7, 8, 9, 10], [0, 1, 2, 3, 4, 5, 6, 7, 8, 9, 10, 11]]
set_option maxHeartbeats 4000000 in
theorem rvalues_any (seed : By 32) (leaf : Nat) (hl : leaf ≤ 65535) (sg : Nat → Nat) (hsg : ∀ c, sg c ≤ 15) (w : World) :
    Calls Try.prog 30 #[.agg (bs seed.1).toArray, .int .i64 (leaf : Int), .agg (nis ((List.range 35).map sg))] w fun e w' => e = .returned (.agg (bs (catF (valF seed.1 leaf sg) 35)).toArray) ∧ Fr0 w w' := by
  have hsz : (bs seed.1).toArray.size = 32 := by simp [seed.2]
  obtain ⟨V, HV⟩ := nm (bs seed.1).toArray
  rw [← HV.out] at hsz ⊢
  have hsN : (nis ((List.range 35).map sg)).size = 35 := by simp
  obtain ⟨M, HM⟩ := nm (nis ((List.range 35).map sg))
  rw [← HM.out] at hsN ⊢
  have hZs := zt__35_bulletinref07_Value
  obtain ⟨w3, HW3⟩ := nm ((((w.alloc (.cells V 31)).alloc (.cells M 27)).alloc (.cells (zeroTail Try.prog 56 0) 56)).alloc (.cells (zeroTail Try.prog 56 0) 56))
  obtain ⟨hb0, hb1, hb2, hb3, hf3, -⟩ := alloc4 _ _ _ _ _ _ _ _ _ _ HW3.out
  rw [zt560v, ← preF_zero (valF seed.1 leaf sg)] at hb3
  have H3 := Lib.hid (And.intro hb0 (And.intro (HM.out ▸ hb1) (And.intro hb2 (And.intro hb3 hf3))))
  clear hb0 hb1 hb2 hb3 hf3
  go_enter Try.func30, Try.ntmps30
  go_wp2_with fail
  rw [← HW3.out]
  obtain ⟨Z, HZ⟩ := nm (zeroTail Try.prog 56 0)
  rw [← HZ.out] at hZs H3
  clear HW3
  go_loopw [8] (fun i wr => ∃ k : Nat, k ≤ 35 ∧ i = .int .i64 k ∧ Blk wr w.heap.size 31 V ∧ Blk wr (w.heap.size + 1) 27 (nis ((List.range 35).map sg)) ∧ Blk wr (w.heap.size + 2) 56 Z ∧ Blk wr (w.heap.size + 3) 56 (bs (preF (valF seed.1 leaf sg) k)).toArray ∧ Fr0 w wr) (fun i _ => 35 - (intOf i).toNat)
  case atStart => exact ⟨0, by omega, rfl, H3.out⟩
  case round =>
    obtain ⟨k, hk, rfl, h0, h1, h2, h3, hf⟩ := hrel
    by_cases hlt : k < 35
    · have z0 : (k : Int) < 35 := by omega
      have z1 : (0 : Int) ≤ (k : Int) := by omega
      have HR := Lib.hid (And.intro h0 (And.intro h1 (And.intro h2 (And.intro h3 hf))))
      have hdr : Fr0 wr wr.drew := Fr.drew (Fr.refl _ _)
      clear h0 h1 h2 h3 hf
      go_wp2_with fail
      refine reg_start (by kernel_rfl) ?_
      refine reg_uno (D := [some 13, some 14, some 15, some 16, some 17, some 18, some 19, some 20, some 21, some 22, some 23, some 24, none]) (J := [0, 1, 2, 3, 4, 5, 6, 7, 8, 9, 10]) 11 [] [PV (.int .i64 (k : Int)), PV (.int .i64 (leaf : Int)), PV (.int .i64 (k : Int)), PV (.int .i64 (k : Int)), PV (.pointer (some ⟨w.heap.size + 1, k, none⟩)), PV (.int .i64 (sg k : Int)), PV (.agg V), PV (.int .i64 (leaf : Int)), PV (.int .i64 (k : Int)), PV (.agg (bs (secB seed.1 leaf k)).toArray), PV (.agg (bs (valF seed.1 leaf sg k)).toArray)] TT30 (by kernel_rfl) (by kernel_rfl) (by kernel_rfl) rfl rfl rfl
        (stab_cons (PV.stab _) (stab_cons (PV.stab _) (stab_cons (PV.stab _) (stab_cons (PV.stab _) (stab_cons (PV.stab _) (stab_cons (PV.stab _) (stab_cons (PV.stab _) (stab_cons (PV.stab _) (stab_cons (PV.stab _) (stab_cons (PV.stab _) (stab_cons (PV.stab _) stab_nil)))))))))))
        (fun v => usteps_cons ?_ (usteps_cons ?_ (usteps_cons ?_ (usteps_cons ?_ (usteps_cons ?_ (usteps_cons ?_ (usteps_cons ?_ (usteps_cons ?_ (usteps_cons ?_ (usteps_cons ?_ (usteps_cons ?_ (usteps_nil)))))))))))) (fun v wx hx hP hA => ?_)
      · refine ustep_mk (D := [some 13, some 14, some 15, some 16, some 17, some 18, some 19, some 20, some 21, some 22, some 23, some 24, none]) (Ti := []) rfl rfl rfl rfl (fun wx hx hP => ?_)   -- 0: move (tmp 8)
        clear hP
        simp only [putD, List.getD_cons_zero, List.getD_cons_succ]
        go_wp2_with fail
        exact Q1.mk rfl _ rfl ⟨Fr.refl _ _, rfl, frok_no rfl⟩
      · refine ustep_mk (D := [some 13, some 14, some 15, some 16, some 17, some 18, some 19, some 20, some 21, some 22, some 23, some 24, none]) (Ti := []) rfl rfl rfl rfl (fun wx hx hP => ?_)   -- 1: move (tmp 1)
        clear hP
        simp only [putD, List.getD_cons_zero, List.getD_cons_succ]
        go_wp2_with fail
        exact Q1.mk rfl _ rfl ⟨Fr.refl _ _, rfl, frok_no rfl⟩
      · refine ustep_mk (D := [some 13, some 14, some 15, some 16, some 17, some 18, some 19, some 20, some 21, some 22, some 23, some 24, none]) (Ti := []) rfl rfl rfl rfl (fun wx hx hP => ?_)   -- 2: move (tmp 8)
        clear hP
        simp only [putD, List.getD_cons_zero, List.getD_cons_succ]
        go_wp2_with fail
        exact Q1.mk rfl _ rfl ⟨Fr.refl _ _, rfl, frok_no rfl⟩
      · refine ustep_mk (D := [some 13, some 14, some 15, some 16, some 17, some 18, some 19, some 20, some 21, some 22, some 23, some 24, none]) (Ti := []) rfl rfl rfl rfl (fun wx hx hP => ?_)   -- 3: move (tmp 8)
        clear hP
        simp only [putD, List.getD_cons_zero, List.getD_cons_succ]
        go_wp2_with fail
        exact Q1.mk rfl _ rfl ⟨Fr.refl _ _, rfl, frok_no rfl⟩
      · refine ustep_mk (D := [some 13, some 14, some 15, some 16, some 17, some 18, some 19, some 20, some 21, some 22, some 23, some 24, none]) (Ti := [3]) rfl rfl rfl rfl (fun wx hx hP => ?_)   -- 4: indexAddr 27 (tmp 5) (tmp 16)
        have h3 : v 3 = .int .i64 (k : Int) := hP.1
        clear hP
        simp only [putD, List.getD_cons_zero, List.getD_cons_succ]
        go_wp2_with fail
        exact Q1.mk rfl _ rfl ⟨Fr.refl _ _, rfl, frok_no rfl⟩
      · refine ustep_mk (D := [some 13, some 14, some 15, some 16, some 17, some 18, some 19, some 20, some 21, some 22, some 23, some 24, none]) (Ti := [3, 4]) rfl rfl rfl rfl (fun wx hx hP => ?_)   -- 5: load 3 (tmp 17)
        have h3 : v 3 = .int .i64 (k : Int) := hP.1
        have h4 : v 4 = .pointer (some ⟨w.heap.size + 1, k, none⟩) := hP.2.1
        have hcd : wx.cell? ⟨w.heap.size + 1, k, none⟩ = some (.int .i64 (sg k : Int)) := nis_cell ((HR.out.2.1.fr (hdr.trans hx) (fun h => h)).all (n := 35) (by simp)) hlt (by simp [hlt])
        clear hP
        simp only [putD, List.getD_cons_zero, List.getD_cons_succ]
        go_wp2_with fail
        exact Q1.mk rfl _ rfl ⟨Fr.refl _ _, rfl, frok_no rfl⟩
      · refine ustep_mk (D := [some 13, some 14, some 15, some 16, some 17, some 18, some 19, some 20, some 21, some 22, some 23, some 24, none]) (Ti := []) rfl rfl rfl rfl (fun wx hx hP => ?_)   -- 6: load 31 (tmp 3)
        have hld := (HR.out.1.fr (hdr.trans hx) (fun h => h)).all hsz
        clear hP
        simp only [putD, List.getD_cons_zero, List.getD_cons_succ]
        go_wp2_with fail
        exact Q1.mk rfl _ rfl ⟨Fr.refl _ _, rfl, frok_no rfl⟩
      · refine ustep_mk (D := [some 13, some 14, some 15, some 16, some 17, some 18, some 19, some 20, some 21, some 22, some 23, some 24, none]) (Ti := []) rfl rfl rfl rfl (fun wx hx hP => ?_)   -- 7: move (tmp 1)
        clear hP
        simp only [putD, List.getD_cons_zero, List.getD_cons_succ]
        go_wp2_with fail
        exact Q1.mk rfl _ rfl ⟨Fr.refl _ _, rfl, frok_no rfl⟩
      · refine ustep_mk (D := [some 13, some 14, some 15, some 16, some 17, some 18, some 19, some 20, some 21, some 22, some 23, some 24, none]) (Ti := []) rfl rfl rfl rfl (fun wx hx hP => ?_)   -- 8: move (tmp 8)
        clear hP
        simp only [putD, List.getD_cons_zero, List.getD_cons_succ]
        go_wp2_with fail
        exact Q1.mk rfl _ rfl ⟨Fr.refl _ _, rfl, frok_no rfl⟩
      · refine ustep_mk (D := [some 13, some 14, some 15, some 16, some 17, some 18, some 19, some 20, some 21, some 22, some 23, some 24, none]) (Ti := [6, 7, 8]) rfl rfl rfl rfl (fun wx hx hP => ?_)   -- 9: call { callee := Callee.value (func 18), args := #
        have h6 : v 6 = .agg V := hP.1
        have h7 : v 7 = .int .i64 (leaf : Int) := hP.2.1
        have h8 : v 8 = .int .i64 (k : Int) := hP.2.2.1
        clear hP
        simp only [putD, List.getD_cons_zero, List.getD_cons_succ]
        go_wp2_with fail
        rw [HV.out]
        refine (rsecret_any seed leaf k hl _).mono ?_
        rintro e wy ⟨rfl, hfy⟩
        go_wp2_with fail
        exact Q1.mk rfl _ rfl ⟨hfy, rfl, frok_no rfl⟩
      · refine ustep_mk (D := [some 13, some 14, some 15, some 16, some 17, some 18, some 19, some 20, some 21, some 22, some 23, some 24, none]) (Ti := [1, 2, 3, 4, 5, 6, 7, 8, 9]) rfl rfl rfl rfl (fun wx hx hP => ?_)   -- 10: call { callee := Callee.value (func 22), args := #
        have h1 : v 1 = .int .i64 (leaf : Int) := hP.1
        have h2 : v 2 = .int .i64 (k : Int) := hP.2.1
        have h3 : v 3 = .int .i64 (k : Int) := hP.2.2.1
        have h4 : v 4 = .pointer (some ⟨w.heap.size + 1, k, none⟩) := hP.2.2.2.1
        have h5 : v 5 = .int .i64 (sg k : Int) := hP.2.2.2.2.1
        have h6 : v 6 = .agg V := hP.2.2.2.2.2.1
        have h7 : v 7 = .int .i64 (leaf : Int) := hP.2.2.2.2.2.2.1
        have h8 : v 8 = .int .i64 (k : Int) := hP.2.2.2.2.2.2.2.1
        have h9 : v 9 = .agg (bs (secB seed.1 leaf k)).toArray := hP.2.2.2.2.2.2.2.2.1
        clear hP
        simp only [putD, List.getD_cons_zero, List.getD_cons_succ]
        go_wp2_with fail
        refine (radvance_any leaf k 0 (sg k) hl (hsg k) (by omega) ⟨secB seed.1 leaf k, secB_length _ _ _⟩ _).mono ?_
        rintro e wy ⟨rfl, hfy⟩
        rw [show advB leaf k 0 (sg k - 0) (secB seed.1 leaf k) = valF seed.1 leaf sg k from rfl]
        go_wp2_with fail
        exact Q1.mk rfl _ rfl ⟨hfy, rfl, frok_no rfl⟩
      have h0 : v 0 = .int .i64 (k : Int) := hP.1
      have h1 : v 1 = .int .i64 (leaf : Int) := hP.2.1
      have h2 : v 2 = .int .i64 (k : Int) := hP.2.2.1
      have h3 : v 3 = .int .i64 (k : Int) := hP.2.2.2.1
      have h4 : v 4 = .pointer (some ⟨w.heap.size + 1, k, none⟩) := hP.2.2.2.2.1
      have h5 : v 5 = .int .i64 (sg k : Int) := hP.2.2.2.2.2.1
      have h6 : v 6 = .agg V := hP.2.2.2.2.2.2.1
      have h7 : v 7 = .int .i64 (leaf : Int) := hP.2.2.2.2.2.2.2.1
      have h8 : v 8 = .int .i64 (k : Int) := hP.2.2.2.2.2.2.2.2.1
      have h9 : v 9 = .agg (bs (secB seed.1 leaf k)).toArray := hP.2.2.2.2.2.2.2.2.2.1
      have h10 : v 10 = .agg (bs (valF seed.1 leaf sg k)).toArray := hP.2.2.2.2.2.2.2.2.2.2.1
      have g0 := HR.out.1.fr (hdr.trans hx) (fun h => h)
      have g1 := HR.out.2.1.fr (hdr.trans hx) (fun h => h)
      have g2 := HR.out.2.2.1.fr (hdr.trans hx) (fun h => h)
      have g3 := HR.out.2.2.2.1.fr (hdr.trans hx) (fun h => h)
      have gf := HR.out.2.2.2.2.trans (hdr.trans hx)
      have hst := rv_st ⟨valF seed.1 leaf sg k, valF_length _ _ _ _⟩
      change ∀ (w : World) (b' p : Nat), okA w b' p 16 = true → (st 36 (.pointer (some ⟨b', p, none⟩)) (.agg (bs (valF seed.1 leaf sg k)).toArray)).run Try.prog w = .ok () (putW w b' p (bs (valF seed.1 leaf sg k)).toArray) at hst
      have hok := g3.okA (k * 16) 16 (by simp [preF_length _ (valF_length seed.1 leaf sg) k (by omega)]; omega)
      have n3 := g3.put (k * 16) (bs (valF seed.1 leaf sg k)).toArray
      rw [preF_put _ (valF_length seed.1 leaf sg) k hlt] at n3
      have n0 := g0.putFar (b := w.heap.size + 3) (by omega) (k * 16) (bs (valF seed.1 leaf sg k)).toArray
      have n1 := g1.putFar (b := w.heap.size + 3) (by omega) (k * 16) (bs (valF seed.1 leaf sg k)).toArray
      have n2 := g2.putFar (b := w.heap.size + 3) (by omega) (k * 16) (bs (valF seed.1 leaf sg k)).toArray
      have nf := gf.put (b := w.heap.size + 3) (S := fun _ => False) (fun h => by omega) (k * 16) (bs (valF seed.1 leaf sg k)).toArray
      have N := Lib.hid (And.intro n0 (And.intro n1 (And.intro n2 (And.intro n3 nf))))
      clear g0 g1 g2 g3 gf n0 n1 n2 n3 nf hx hA
      clear hP
      simp only [putD, List.getD_cons_zero, List.getD_cons_succ]
      refine reg_seq' 26 2 TT30 (by kernel_rfl) (by kernel_rfl) ?_
      simp only [List.drop_succ_cons, List.drop_zero, List.take_succ_cons, List.take_zero]
      go_wp2_with fail
      refine QR.mk ?_
      refine reg_end (by decide) ?_
      go_wp2_with fail
      clear hst hok
      go_roundw
      case rel =>
        first
        | exact ⟨k + 1, by omega, by go_num, N.out⟩
        | ((repeat apply Exists.intro); exact ⟨⟨k + 1, by omega, by go_num, N.out⟩, rfl⟩)
      case measure => simp [intOf]; omega
    · have hk35 : k = 35 := by omega
      subst hk35
      rw [preF_all] at h3
      have hone : one1 (bs (catF (valF seed.1 leaf sg) 35)).toArray = true := all_one (bs_one' _)
      have hsY : (bs (catF (valF seed.1 leaf sg) 35)).toArray.size = 560 := by simp [catF_length _ (valF_length seed.1 leaf sg)]
      obtain ⟨Y, HY⟩ := nm (bs (catF (valF seed.1 leaf sg) 35)).toArray
      rw [← HY.out] at h3 hone hsY
      have hld := h3.all hsY
      obtain ⟨hok, hput, hfin⟩ := fin_agg (n := 560) (cs := Y) h2 hf (by omega) hZs hsY
      have HP := Lib.hid (And.intro hput hfin)
      clear h0 h1 h2 h3 hf hput hfin
      go_wp2_with fail
      refine bodyPost_agg (n := 560) (cs := Y) rfl Try.underlying56 rfl info__35_bulletinref07_Value (by rfl) ?_ rfl ?_
      · exact HP.out.1
      · exact ⟨by rw [HY.out], HP.out.2⟩

def TT26 : List (List Nat) := [[], [], [], [], [3], [3, 4], [], [6], [6, 7], [1, 2, 3, 4, 5, 6, 7, 8], [0, 1, 2, 3, 4, 5, 6, 7, 8, 9], [0, 1, 2, 3, 4, 5, 6, 7, 8, 9, 10]]
set_option maxHeartbeats 4000000 in
theorem rlast_any (leaf : Nat) (hl : leaf ≤ 65535) (d : By 16) (s : By 560) (w : World) :
    Calls Try.prog 26 #[.int .i64 (leaf : Int), .agg (bs d.1).toArray, .agg (bs s.1).toArray] w fun e w' => e = .returned (.agg (bs (endE leaf d.1 s.1)).toArray) ∧ Fr0 w w' := by
  have hsd : (bs d.1).toArray.size = 16 := by simp [d.2]
  obtain ⟨D, HD⟩ := nm (bs d.1).toArray
  rw [← HD.out] at hsd ⊢
  have hsg : (bs s.1).toArray.size = 560 := by simp [s.2]
  obtain ⟨G, HG⟩ := nm (bs s.1).toArray
  rw [← HG.out] at hsg ⊢
  have hZs := zt__35_bulletinref07_Value
  obtain ⟨w3, HW3⟩ := nm (((w.alloc (.cells D 22)).alloc (.cells G 56)).alloc (.cells (zeroTail Try.prog 56 0) 56))
  obtain ⟨hb0, hb1, hb2, hf3, hs3⟩ := alloc3 w 22 56 56 D G (zeroTail Try.prog 56 0)
  rw [← HW3.out] at hb0 hb1 hb2 hf3 hs3
  have hld := hb0.all hsd
  rw [HW3.out] at hld
  have H3 := Lib.hid (And.intro hb1 (And.intro hb2 (And.intro hf3 hs3)))
  clear hb0 hb1 hb2 hf3 hs3
  go_enter Try.func26, Try.ntmps26
  go_wp2_with fail
  rw [← HW3.out, HD.out]
  refine (rsplit_any d _).mono ?_
  rintro e w4 ⟨rfl, hf4⟩
  rw [← HD.out]
  have hns := nis_one (splL d.1)
  have hnz : (nis (splL d.1)).size = 35 := by simp
  have hz35 := zt__35_int
  obtain ⟨N, HN⟩ := nm (nis (splL d.1))
  rw [← HN.out] at hns hnz ⊢
  obtain ⟨w5, HW5⟩ := nm (w4.alloc (.cells N 27))
  have HW4 := Lib.hid (show w.heap.size + 3 ≤ w4.heap.size from by have := hf4.size; have := H3.out.2.2.2; omega)
  have H5 := Lib.hid (show Blk w5 w4.heap.size 27 (nis (splL d.1)) ∧ Blk w5 (w.heap.size + 2) 56 (zeroTail Try.prog 56 0) ∧ Blk w5 (w.heap.size + 1) 56 (bs (mixF (endG leaf d.1 s.1) s.1 0)).toArray ∧ Fr0 w w5 from by
    rw [HW5.out]
    refine ⟨by rw [← HN.out]; exact Blk.new _ _ _, (H3.out.2.1.fr hf4 (fun h => h)).alloc _, ?_, (H3.out.2.2.1.trans hf4).alloc _⟩
    rw [show mixF (endG leaf d.1 s.1) s.1 0 = s.1 by simp [mixF, catF], ← HG.out]
    exact (H3.out.1.fr hf4 (fun h => h)).alloc _)
  clear hf4 hld
  go_wp2_with fail
  rw [← HW5.out]
  obtain ⟨Z, HZ⟩ := nm (zeroTail Try.prog 56 0)
  rw [← HZ.out] at hZs H5
  clear HW5 HW3 hns hnz hz35
  go_loopw [8] (fun i wr => ∃ k : Nat, k ≤ 35 ∧ i = .int .i64 k ∧ Blk wr w4.heap.size 27 (nis (splL d.1)) ∧ Blk wr (w.heap.size + 2) 56 Z ∧ Blk wr (w.heap.size + 1) 56 (bs (mixF (endG leaf d.1 s.1) s.1 k)).toArray ∧ Fr0 w wr) (fun i _ => 35 - (intOf i).toNat)
  case atStart => exact ⟨0, by omega, rfl, H5.out⟩
  case round =>
    obtain ⟨k, hk, rfl, h0, h1, h2, hf⟩ := hrel
    by_cases hlt : k < 35
    · have z0 : (k : Int) < 35 := by omega
      have z1 : (0 : Int) ≤ (k : Int) := by omega
      have HR := Lib.hid (And.intro h0 (And.intro h1 (And.intro h2 hf)))
      have hdr : Fr0 wr wr.drew := Fr.drew (Fr.refl _ _)
      clear h0 h1 h2 hf
      go_wp2_with fail
      refine reg_start (by kernel_rfl) ?_
      refine reg_uno (D := [some 15, some 16, some 17, some 18, some 19, some 20, some 21, some 22, some 23, some 24, some 25, none]) (J := [0, 1, 2, 3, 4, 5, 6, 7, 8, 9]) 10 [] [PV (.int .i64 (k : Int)), PV (.int .i64 (leaf : Int)), PV (.int .i64 (k : Int)), PV (.int .i64 (k : Int)), PV (.pointer (some ⟨w4.heap.size, k, none⟩)), PV (.int .i64 (splN d.1 k : Int)), PV (.int .i64 (k : Int)), PV (.pointer (some ⟨w.heap.size + 1, k * 16, none⟩)), PV (.agg (bs (seg s.1 k)).toArray), PV (.agg (bs (endG leaf d.1 s.1 k)).toArray)] TT26 (by kernel_rfl) (by kernel_rfl) (by kernel_rfl) rfl rfl rfl
        (stab_cons (PV.stab _) (stab_cons (PV.stab _) (stab_cons (PV.stab _) (stab_cons (PV.stab _) (stab_cons (PV.stab _) (stab_cons (PV.stab _) (stab_cons (PV.stab _) (stab_cons (PV.stab _) (stab_cons (PV.stab _) (stab_cons (PV.stab _) stab_nil))))))))))
        (fun v => usteps_cons ?_ (usteps_cons ?_ (usteps_cons ?_ (usteps_cons ?_ (usteps_cons ?_ (usteps_cons ?_ (usteps_cons ?_ (usteps_cons ?_ (usteps_cons ?_ (usteps_cons ?_ (usteps_nil))))))))))) (fun v wx hx hP hA => ?_)
      · refine ustep_mk (D := [some 15, some 16, some 17, some 18, some 19, some 20, some 21, some 22, some 23, some 24, some 25, none]) (Ti := []) rfl rfl rfl rfl (fun wx hx hP => ?_)   -- 0: move (tmp 8)
        clear hP
        simp only [putD, List.getD_cons_zero, List.getD_cons_succ]
        go_wp2_with fail
        exact Q1.mk rfl _ rfl ⟨Fr.refl _ _, rfl, frok_no rfl⟩
      · refine ustep_mk (D := [some 15, some 16, some 17, some 18, some 19, some 20, some 21, some 22, some 23, some 24, some 25, none]) (Ti := []) rfl rfl rfl rfl (fun wx hx hP => ?_)   -- 1: move (tmp 0)
        clear hP
        simp only [putD, List.getD_cons_zero, List.getD_cons_succ]
        go_wp2_with fail
        exact Q1.mk rfl _ rfl ⟨Fr.refl _ _, rfl, frok_no rfl⟩
      · refine ustep_mk (D := [some 15, some 16, some 17, some 18, some 19, some 20, some 21, some 22, some 23, some 24, some 25, none]) (Ti := []) rfl rfl rfl rfl (fun wx hx hP => ?_)   -- 2: move (tmp 8)
        clear hP
        simp only [putD, List.getD_cons_zero, List.getD_cons_succ]
        go_wp2_with fail
        exact Q1.mk rfl _ rfl ⟨Fr.refl _ _, rfl, frok_no rfl⟩
      · refine ustep_mk (D := [some 15, some 16, some 17, some 18, some 19, some 20, some 21, some 22, some 23, some 24, some 25, none]) (Ti := []) rfl rfl rfl rfl (fun wx hx hP => ?_)   -- 3: move (tmp 8)
        clear hP
        simp only [putD, List.getD_cons_zero, List.getD_cons_succ]
        go_wp2_with fail
        exact Q1.mk rfl _ rfl ⟨Fr.refl _ _, rfl, frok_no rfl⟩
      · refine ustep_mk (D := [some 15, some 16, some 17, some 18, some 19, some 20, some 21, some 22, some 23, some 24, some 25, none]) (Ti := [3]) rfl rfl rfl rfl (fun wx hx hP => ?_)   -- 4: indexAddr 27 (tmp 7) (tmp 18)
        have h3 : v 3 = .int .i64 (k : Int) := hP.1
        clear hP
        simp only [putD, List.getD_cons_zero, List.getD_cons_succ]
        go_wp2_with fail
        exact Q1.mk rfl _ rfl ⟨Fr.refl _ _, rfl, frok_no rfl⟩
      · refine ustep_mk (D := [some 15, some 16, some 17, some 18, some 19, some 20, some 21, some 22, some 23, some 24, some 25, none]) (Ti := [3, 4]) rfl rfl rfl rfl (fun wx hx hP => ?_)   -- 5: load 3 (tmp 19)
        have h3 : v 3 = .int .i64 (k : Int) := hP.1
        have h4 : v 4 = .pointer (some ⟨w4.heap.size, k, none⟩) := hP.2.1
        have hcd : wx.cell? ⟨w4.heap.size, k, none⟩ = some (.int .i64 (splN d.1 k : Int)) := nis_cell ((HR.out.1.fr (hdr.trans hx) (fun h => h)).all (n := 35) (by simp)) hlt (splL_at hlt)
        clear hP
        simp only [putD, List.getD_cons_zero, List.getD_cons_succ]
        go_wp2_with fail
        exact Q1.mk rfl _ rfl ⟨Fr.refl _ _, rfl, frok_no rfl⟩
      · refine ustep_mk (D := [some 15, some 16, some 17, some 18, some 19, some 20, some 21, some 22, some 23, some 24, some 25, none]) (Ti := []) rfl rfl rfl rfl (fun wx hx hP => ?_)   -- 6: move (tmp 8)
        clear hP
        simp only [putD, List.getD_cons_zero, List.getD_cons_succ]
        go_wp2_with fail
        exact Q1.mk rfl _ rfl ⟨Fr.refl _ _, rfl, frok_no rfl⟩
      · refine ustep_mk (D := [some 15, some 16, some 17, some 18, some 19, some 20, some 21, some 22, some 23, some 24, some 25, none]) (Ti := [6]) rfl rfl rfl rfl (fun wx hx hP => ?_)   -- 7: indexAddr 56 (tmp 5) (tmp 21)
        have h6 : v 6 = .int .i64 (k : Int) := hP.1
        clear hP
        simp only [putD, List.getD_cons_zero, List.getD_cons_succ]
        go_wp2_with fail
        exact Q1.mk rfl _ rfl ⟨Fr.refl _ _, rfl, frok_no rfl⟩
      · refine ustep_mk (D := [some 15, some 16, some 17, some 18, some 19, some 20, some 21, some 22, some 23, some 24, some 25, none]) (Ti := [6, 7]) rfl rfl rfl rfl (fun wx hx hP => ?_)   -- 8: load 36 (tmp 22)
        have h6 : v 6 = .int .i64 (k : Int) := hP.1
        have h7 : v 7 = .pointer (some ⟨w.heap.size + 1, k * 16, none⟩) := hP.2.1
        have hld : ldA wx (w.heap.size + 1) (k * 16) 16 = some (bs (seg s.1 k)).toArray := by rw [(HR.out.2.2.1.fr (hdr.trans hx) (fun h => h)).ldA (k * 16) 16 (by simp [mixF_length _ (endG_length s.2 leaf d.1) s.2 k (by omega)]; omega), seg_extract, mixF_seg _ (endG_length s.2 leaf d.1)]
        clear hP
        simp only [putD, List.getD_cons_zero, List.getD_cons_succ]
        go_wp2_with fail
        exact Q1.mk rfl _ rfl ⟨Fr.refl _ _, rfl, frok_no rfl⟩
      · refine ustep_mk (D := [some 15, some 16, some 17, some 18, some 19, some 20, some 21, some 22, some 23, some 24, some 25, none]) (Ti := [1, 2, 3, 4, 5, 6, 7, 8]) rfl rfl rfl rfl (fun wx hx hP => ?_)   -- 9: call { callee := Callee.value (func 22), args := #
        have h1 : v 1 = .int .i64 (leaf : Int) := hP.1
        have h2 : v 2 = .int .i64 (k : Int) := hP.2.1
        have h3 : v 3 = .int .i64 (k : Int) := hP.2.2.1
        have h4 : v 4 = .pointer (some ⟨w4.heap.size, k, none⟩) := hP.2.2.2.1
        have h5 : v 5 = .int .i64 (splN d.1 k : Int) := hP.2.2.2.2.1
        have h6 : v 6 = .int .i64 (k : Int) := hP.2.2.2.2.2.1
        have h7 : v 7 = .pointer (some ⟨w.heap.size + 1, k * 16, none⟩) := hP.2.2.2.2.2.2.1
        have h8 : v 8 = .agg (bs (seg s.1 k)).toArray := hP.2.2.2.2.2.2.2.1
        clear hP
        simp only [putD, List.getD_cons_zero, List.getD_cons_succ]
        go_wp2_with fail
        refine (radvance_any leaf k (splN d.1 k) 15 hl (by omega) (by have := splN_lt d.1 k; omega) ⟨seg s.1 k, seg_length s.2 hlt⟩ _).mono ?_
        rintro e wy ⟨rfl, hfy⟩
        rw [show advB leaf k (splN d.1 k) (15 - splN d.1 k) (seg s.1 k) = endG leaf d.1 s.1 k by unfold endG; rw [if_pos hlt]; rfl]
        go_wp2_with fail
        exact Q1.mk rfl _ rfl ⟨hfy, rfl, frok_no rfl⟩
      have h0 : v 0 = .int .i64 (k : Int) := hP.1
      have h1 : v 1 = .int .i64 (leaf : Int) := hP.2.1
      have h2 : v 2 = .int .i64 (k : Int) := hP.2.2.1
      have h3 : v 3 = .int .i64 (k : Int) := hP.2.2.2.1
      have h4 : v 4 = .pointer (some ⟨w4.heap.size, k, none⟩) := hP.2.2.2.2.1
      have h5 : v 5 = .int .i64 (splN d.1 k : Int) := hP.2.2.2.2.2.1
      have h6 : v 6 = .int .i64 (k : Int) := hP.2.2.2.2.2.2.1
      have h7 : v 7 = .pointer (some ⟨w.heap.size + 1, k * 16, none⟩) := hP.2.2.2.2.2.2.2.1
      have h8 : v 8 = .agg (bs (seg s.1 k)).toArray := hP.2.2.2.2.2.2.2.2.1
      have h9 : v 9 = .agg (bs (endG leaf d.1 s.1 k)).toArray := hP.2.2.2.2.2.2.2.2.2.1
      have g0 := HR.out.1.fr (hdr.trans hx) (fun h => h)
      have g1 := HR.out.2.1.fr (hdr.trans hx) (fun h => h)
      have g3 := HR.out.2.2.1.fr (hdr.trans hx) (fun h => h)
      have gf := HR.out.2.2.2.trans (hdr.trans hx)
      have hst := rv_st ⟨endG leaf d.1 s.1 k, endG_length s.2 _ _ _⟩
      change ∀ (w : World) (b' p : Nat), okA w b' p 16 = true → (st 36 (.pointer (some ⟨b', p, none⟩)) (.agg (bs (endG leaf d.1 s.1 k)).toArray)).run Try.prog w = .ok () (putW w b' p (bs (endG leaf d.1 s.1 k)).toArray) at hst
      have hok := g3.okA (k * 16) 16 (by simp [mixF_length _ (endG_length s.2 leaf d.1) s.2 k (by omega)]; omega)
      have n3 := g3.put (k * 16) (bs (endG leaf d.1 s.1 k)).toArray
      rw [mixF_put _ (endG_length s.2 leaf d.1) s.2 k hlt] at n3
      have n0 := g0.putFar (b := w.heap.size + 1) (by have := HW4.out; omega) (k * 16) (bs (endG leaf d.1 s.1 k)).toArray
      have n1 := g1.putFar (b := w.heap.size + 1) (by omega) (k * 16) (bs (endG leaf d.1 s.1 k)).toArray
      have nf := gf.put (b := w.heap.size + 1) (S := fun _ => False) (fun h => by omega) (k * 16) (bs (endG leaf d.1 s.1 k)).toArray
      have N := Lib.hid (And.intro n0 (And.intro n1 (And.intro n3 nf)))
      clear g0 g1 g3 gf n0 n1 n3 nf hx hA
      clear hP
      simp only [putD, List.getD_cons_zero, List.getD_cons_succ]
      refine reg_seq' 27 2 TT26 (by kernel_rfl) (by kernel_rfl) ?_
      simp only [List.drop_succ_cons, List.drop_zero, List.take_succ_cons, List.take_zero]
      go_wp2_with fail
      refine QR.mk ?_
      refine reg_end (by decide) ?_
      go_wp2_with fail
      clear hst hok
      go_roundw
      case rel =>
        first
        | exact ⟨k + 1, by omega, by go_num, N.out⟩
        | ((repeat apply Exists.intro); exact ⟨⟨k + 1, by omega, by go_num, N.out⟩, rfl⟩)
      case measure => simp [intOf]; omega
    · have hk35 : k = 35 := by omega
      subst hk35
      rw [show mixF (endG leaf d.1 s.1) s.1 35 = endE leaf d.1 s.1 by rw [mixF, List.drop_of_length_le (by rw [s.2]; omega), List.append_nil]] at h2
      have hone : one1 (bs (endE leaf d.1 s.1)).toArray = true := all_one (bs_one' _)
      have hsY : (bs (endE leaf d.1 s.1)).toArray.size = 560 := by simp [endE_length s.2]
      obtain ⟨Y, HY⟩ := nm (bs (endE leaf d.1 s.1)).toArray
      rw [← HY.out] at h2 hone hsY
      have hld := h2.all hsY
      obtain ⟨hok, hput, hfin⟩ := fin_agg (n := 560) (cs := Y) h1 hf (by omega) hZs hsY
      have HP := Lib.hid (And.intro hput hfin)
      clear h0 h1 h2 hf hput hfin
      go_wp2_with fail
      refine bodyPost_agg (n := 560) (cs := Y) rfl Try.underlying56 rfl info__35_bulletinref07_Value (by rfl) ?_ rfl ?_
      · exact HP.out.1
      · exact ⟨by rw [HY.out], HP.out.2⟩

end Go.Proofs.Ytjdbfedkadoklaa
