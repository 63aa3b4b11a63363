/- One-time signatures: the reference's Split. No condition. -/
import Derived.Test.YtjdbfedkadoklaaOtK
import Derived.BigRegion
namespace Go.Proofs.Ytjdbfedkadoklaa
set_option linter.unusedVariables false
set_option linter.unusedSimpArgs false
set_option maxRecDepth 10000
open Go.RowKit
attribute [local go_sem ↓] Go.wp_at_zero Go.wp_at_succ

/-- The first n digits, then zeros. -/
def pre35 (d : List UInt8) (n : Nat) : List Nat := (List.range n).map (digN d) ++ List.replicate (35 - n) 0
theorem pre35_set (d : List UInt8) (n : Nat) (h : n < 35) : (nis (pre35 d n)).setIfInBounds n (iv (digN d n)) = nis (pre35 d (n + 1)) := setA (v := digN d) h
theorem pre35_len (d : List UInt8) (n : Nat) (h : n ≤ 35) : (nis (pre35 d n)).size = 35 := by simp [pre35]; omega
theorem pre35_at (d : List UInt8) (n k : Nat) (h : k < n) (hn : n ≤ 35) : (nis (pre35 d n))[k]? = some (iv (digN d k)) := by
  have hk : k < ((List.range n).map (digN d)).length := by simpa using h
  simp only [nis, pre35, List.getElem?_toArray, List.getElem?_map, List.getElem?_append_left hk]
  simp [h]

theorem spl_end (d : List UInt8) (S : Nat) (hS : S = sumN d 32) : (((nis (pre35 d 32)).setIfInBounds 32 (.int .i64 ((S : Int) / 256))).setIfInBounds 33 (.int .i64 ((S : Int) / 16 % 16))).setIfInBounds 34 (.int .i64 ((S : Int) % 16)) = nis (splL d) := by
  have h1 : splL d = (List.range 32).map (digN d) ++ [S / 256, S / 16 % 16, S % 16] := by
    unfold splL
    have e1 : (List.range 32).map (splN d) = (List.range 32).map (digN d) := List.map_congr_left fun c hc => by rw [splN, if_pos (List.mem_range.1 hc)]
    rw [show List.range 35 = List.range 32 ++ [32, 33, 34] by rfl, List.map_append, e1]
    simp [splN, hS]
  have hl : ((List.range 32).map (digN d)).length = 32 := by simp
  have h2 : pre35 d 32 = (List.range 32).map (digN d) ++ [0, 0, 0] := rfl
  have a1 : Value.int .i64 ((S : Int) / 256) = iv (S / 256) := by congr 1
  have a2 : Value.int .i64 ((S : Int) / 16 % 16) = iv (S / 16 % 16) := by congr 1
  have a3 : Value.int .i64 ((S : Int) % 16) = iv (S % 16) := by congr 1
  rw [h1, h2, a1, a2, a3]
  generalize (List.range 32).map (digN d) = l at hl
  unfold nis
  simp only [List.setIfInBounds_toArray, List.map_append]
  congr 1
  have hm : (l.map iv).length = 32 := by simp [hl]
  rw [List.set_append_right _ _ (by omega), List.set_append_right _ _ (by omega), List.set_append_right _ _ (by omega), hm]
  rfl
set_option maxHeartbeats 1000000 in
theorem rsplit_any (d : By 16) (w : World) :
    Calls Try.prog 15 #[.agg (bs d.1).toArray] w fun e w' => e = .returned (.agg (nis (splL d.1))) ∧ Fr0 w w' := by
  have hsz : (bs d.1).toArray.size = 16 := by simp [d.2]
  obtain ⟨V, HV⟩ := nm (bs d.1).toArray
  rw [← HV.out] at hsz ⊢
  have hZs := zt__35_int
  obtain ⟨w3, HW3⟩ := nm (((w.alloc (.cells V 22)).alloc (.cells (zeroTail Try.prog 27 0) 27)).alloc (.cells (zeroTail Try.prog 27 0) 27))
  obtain ⟨hb0, hb1, hb2, hf, -⟩ := alloc3 w 22 27 27 V (zeroTail Try.prog 27 0) (zeroTail Try.prog 27 0)
  rw [← HW3.out] at hb0 hb1 hb2 hf
  rw [zt35] at hb2
  have H0 := Lib.hid (And.intro hb0 (And.intro hb1 (And.intro hb2 hf)))
  clear hb0 hb1 hb2 hf
  go_enter Try.func15, Try.ntmps15
  go_wp2_with fail
  rw [← HW3.out]
  obtain ⟨Z, HZ⟩ := nm (zeroTail Try.prog 27 0)
  rw [← HZ.out] at hZs H0
  clear HW3
  go_loopw [4, 5] (fun s i wr => ∃ k : Nat, k ≤ 16 ∧ i = .int .i64 k ∧ s = .int .i64 (sumN d.1 (2 * k) : Int) ∧ Blk wr w.heap.size 22 V ∧ Blk wr (w.heap.size + 1) 27 Z ∧ Blk wr (w.heap.size + 2) 27 (nis (pre35 d.1 (2 * k))) ∧ Fr0 w wr) (fun _ i _ => 16 - (intOf i).toNat)
  case atStart => exact ⟨0, by omega, rfl, rfl, H0.out.1, H0.out.2.1, by simpa [pre35] using H0.out.2.2.1, H0.out.2.2.2⟩
  case round =>
    obtain ⟨k, hk, rfl, rfl, h0, h1, h2, hf⟩ := hrel
    by_cases hlt : k < 16
    · have z0 : (k : Int) < 16 := by omega
      have z1 : (0 : Int) ≤ (k : Int) := by omega
      obtain ⟨x, hx⟩ : ∃ x, d.1[k]? = some x := ⟨_, List.getElem?_eq_getElem (by have := d.2; omega)⟩
      have cd : wr.cell? ⟨w.heap.size, k, none⟩ = some (.int .u8 (x.toNat : Int)) := by rw [h0.cell k, HV.out]; simp [bs, hx, Proofs.Ytjdbfedkadoklaa.u8]
      have e1 : digN d.1 (2 * k) = x.toNat / 16 := by rw [digN, if_pos (by omega), show 2 * k / 2 = k by omega]; simp [List.getD, hx]
      have e2 : digN d.1 (2 * k + 1) = x.toNat % 16 := by rw [digN, if_neg (by omega), show (2 * k + 1) / 2 = k by omega]; simp [List.getD, hx]
      have hx256 := x.toNat_lt
      have q1 : Value.int .i64 ((x.toNat : Int) / 16) = iv (digN d.1 (2 * k)) := by rw [e1]; congr 1
      have q2 : Value.int .i64 ((x.toNat : Int) % 16) = iv (digN d.1 (2 * k + 1)) := by rw [e2]; congr 1
      have s2 : sumN d.1 (2 * (k + 1)) = sumN d.1 (2 * k) + (15 - x.toNat / 16) + (15 - x.toNat % 16) := by rw [show 2 * (k + 1) = 2 * k + 1 + 1 by omega]; simp only [sumN]; rw [e1, e2]
      have sle := sumN_le d.1 (2 * k)
      obtain ⟨y, hy⟩ : ∃ y, (nis (pre35 d.1 (2 * k)))[2 * k]? = some y := ⟨_, Array.getElem?_eq_getElem (by rw [pre35_len _ _ (by omega)]; omega)⟩
      obtain ⟨y2, hy2⟩ : ∃ y, (nis (pre35 d.1 (2 * k + 1)))[2 * k + 1]? = some y := ⟨_, Array.getElem?_eq_getElem (by rw [pre35_len _ _ (by omega)]; omega)⟩
      have c1 : wr.cell? ⟨w.heap.size + 2, 2 * k, none⟩ = some y := (h2.cell _).trans hy
      have f1 := h2.frozen (2 * k)
      have n1 := h2.set_ (2 * k) (.int .i64 ((x.toNat : Int) / 16))
      rw [show (nis (pre35 d.1 (2 * k))).setIfInBounds (2 * k) (.int .i64 ((x.toNat : Int) / 16)) = nis (pre35 d.1 (2 * k + 1)) by rw [q1]; exact pre35_set _ _ (by omega)] at n1
      have c2 : (wr.setCell ⟨w.heap.size + 2, 2 * k, none⟩ (.int .i64 ((x.toNat : Int) / 16))).cell? ⟨w.heap.size + 2, 2 * k + 1, none⟩ = some y2 := (n1.cell _).trans hy2
      have f2 := n1.frozen (2 * k + 1)
      have n2 := n1.set_ (2 * k + 1) (.int .i64 ((x.toNat : Int) % 16))
      rw [show (nis (pre35 d.1 (2 * k + 1))).setIfInBounds (2 * k + 1) (.int .i64 ((x.toNat : Int) % 16)) = nis (pre35 d.1 (2 * (k + 1))) by rw [q2]; exact pre35_set _ _ (by omega)] at n2
      have m0 := (h0.far (p := ⟨w.heap.size + 2, 2 * k, none⟩) (by dsimp only; omega) (.int .i64 ((x.toNat : Int) / 16))).far (p := ⟨w.heap.size + 2, 2 * k + 1, none⟩) (by dsimp only; omega) (.int .i64 ((x.toNat : Int) % 16))
      have m1 := (h1.far (p := ⟨w.heap.size + 2, 2 * k, none⟩) (by dsimp only; omega) (.int .i64 ((x.toNat : Int) / 16))).far (p := ⟨w.heap.size + 2, 2 * k + 1, none⟩) (by dsimp only; omega) (.int .i64 ((x.toNat : Int) % 16))
      have mf := (hf.setCell (p := ⟨w.heap.size + 2, 2 * k, none⟩) (fun h => by dsimp only at h; omega) (.int .i64 ((x.toNat : Int) / 16))).setCell (p := ⟨w.heap.size + 2, 2 * k + 1, none⟩) (fun h => by dsimp only at h; omega) (.int .i64 ((x.toNat : Int) % 16))
      have M := Lib.hid (And.intro m0.drew (And.intro m1.drew (And.intro n2.drew mf.drew)))
      have Q := Lib.hid (And.intro e1 (And.intro e2 s2))
      clear h0 h1 h2 hf n1 n2 m0 m1 mf q1 q2 e1 e2 s2 hy hy2 hx
      go_wp2_with fail
      go_region
      clear c1 f1 c2 f2 cd
      obtain ⟨w5, HW5⟩ := nm (((wr.setCell ⟨w.heap.size + 2, 2 * k, none⟩ (.int .i64 ((x.toNat : Int) / 16))).setCell ⟨w.heap.size + 2, 2 * k + 1, none⟩ (.int .i64 ((x.toNat : Int) % 16))).drew)
      rw [← HW5.out] at M ⊢
      have g1 : w5.cell? ⟨w.heap.size + 2, 2 * k, none⟩ = some (.int .i64 ((x.toNat : Int) / 16)) := by
        rw [M.out.2.2.1.cell, pre35_at _ _ _ (by omega) (by omega), Q.out.1]; simp
      have g2 : w5.cell? ⟨w.heap.size + 2, 2 * k + 1, none⟩ = some (.int .i64 ((x.toNat : Int) % 16)) := by
        rw [M.out.2.2.1.cell, pre35_at _ _ _ (by omega) (by omega), Q.out.2.1]; simp
      go_wp2_with fail
      go_quiet (fail)
      go_wp2_with fail
      clear g1 g2
      go_roundw
      case rel =>
        have hs2 := Q.out.2.2
        first
        | exact ⟨k + 1, by omega, by go_num, by rw [hs2]; congr 1; omega, M.out.1.drewN _, M.out.2.1.drewN _, M.out.2.2.1.drewN _, M.out.2.2.2.drewN _⟩
        | ((repeat apply Exists.intro); exact ⟨⟨k + 1, by omega, by go_num, by rw [hs2]; congr 1; omega, M.out.1.drewN _, M.out.2.1.drewN _, M.out.2.2.1.drewN _, M.out.2.2.2.drewN _⟩, rfl⟩)
      case measure => simp [intOf]; omega
    · have hk16 : k = 16 := by omega
      subst hk16
      have sle := sumN_le d.1 32
      obtain ⟨S, hS⟩ : ∃ S, S = sumN d.1 32 := ⟨_, rfl⟩
      rw [show 2 * 16 = 32 from rfl] at h2 ⊢
      rw [← hS] at sle ⊢
      have get : ∀ (A : Array Value) (k : Nat), A.size = 35 → k < 35 → ∃ y, A[k]? = some y := fun A k h1 h2 => ⟨_, Array.getElem?_eq_getElem (by omega)⟩
      obtain ⟨y1, hy1⟩ := get (nis (pre35 d.1 32)) 32 (pre35_len _ _ (by omega)) (by omega)
      have n1 := h2.set_ 32 (.int .i64 ((S : Int) / 256))
      obtain ⟨y2, hy2⟩ := get ((nis (pre35 d.1 32)).setIfInBounds 32 (.int .i64 ((S : Int) / 256))) 33 (by rw [Array.size_setIfInBounds, pre35_len _ _ (by omega)]) (by omega)
      have n2 := n1.set_ 33 (.int .i64 ((S : Int) / 16 % 16))
      obtain ⟨y3, hy3⟩ := get (((nis (pre35 d.1 32)).setIfInBounds 32 (.int .i64 ((S : Int) / 256))).setIfInBounds 33 (.int .i64 ((S : Int) / 16 % 16))) 34 (by rw [Array.size_setIfInBounds, Array.size_setIfInBounds, pre35_len _ _ (by omega)]) (by omega)
      have n3 := n2.set_ 34 (.int .i64 ((S : Int) % 16))
      have c1 := (h2.cell 32).trans hy1
      have c2 := (n1.cell 33).trans hy2
      have c3 := (n2.cell 34).trans hy3
      have f1 := h2.frozen 32
      have f2 := n1.frozen 33
      have f3 := n2.frozen 34
      rw [spl_end d.1 S hS] at n3
      have hone := nis_one (splL d.1)
      have hsY : (nis (splL d.1)).size = 35 := by simp
      obtain ⟨Y, HY⟩ := nm (nis (splL d.1))
      rw [← HY.out] at n3 hone hsY
      have hld := n3.all hsY
      have m1 := ((h1.far (p := ⟨w.heap.size + 2, 32, none⟩) (by dsimp only; omega) (.int .i64 ((S : Int) / 256))).far (p := ⟨w.heap.size + 2, 33, none⟩) (by dsimp only; omega) (.int .i64 ((S : Int) / 16 % 16))).far (p := ⟨w.heap.size + 2, 34, none⟩) (by dsimp only; omega) (.int .i64 ((S : Int) % 16))
      have mf := ((hf.setCell (p := ⟨w.heap.size + 2, 32, none⟩) (fun h => by dsimp only at h; omega) (.int .i64 ((S : Int) / 256))).setCell (p := ⟨w.heap.size + 2, 33, none⟩) (fun h => by dsimp only at h; omega) (.int .i64 ((S : Int) / 16 % 16))).setCell (p := ⟨w.heap.size + 2, 34, none⟩) (fun h => by dsimp only at h; omega) (.int .i64 ((S : Int) % 16))
      obtain ⟨hok, hput, hfin⟩ := fin_agg (n := 35) (cs := Y) m1 mf (by omega) hZs hsY
      have HP := Lib.hid (And.intro hput hfin)
      clear h0 h1 h2 hf n1 n2 n3 m1 mf hy1 hy2 hy3 hS hput hfin get
      go_wp2_with fail
      refine bodyPost_agg (n := 35) (cs := Y) rfl Try.underlying27 rfl info__35_int (by rfl) ?_ rfl ?_
      · exact HP.out.1
      · exact ⟨by rw [HY.out], HP.out.2⟩
end Go.Proofs.Ytjdbfedkadoklaa
