/- OnetimeParts: the law's walk. No condition. -/
import Derived.Test.YtjdbfedkadoklaaOtS
namespace Go.Proofs.Ytjdbfedkadoklaa
set_option linter.unusedVariables false
set_option linter.unusedSimpArgs false
set_option maxRecDepth 10000
open Go.RowKit
attribute [local go_sem ↓] Go.wp_at_zero Go.wp_at_succ

theorem alloc3n (w : World) (t0 t1 t2 : TypeId) (c0 c1 c2 : Array Value) (w3 : World) (h : w3 = ((w.alloc (.cells c0 t0)).alloc (.cells c1 t1)).alloc (.cells c2 t2)) :
    Blk w3 w.heap.size t0 c0 ∧ Blk w3 (w.heap.size + 1) t1 c1 ∧ Blk w3 (w.heap.size + 2) t2 c2 ∧ Fr0 w w3 := by
  subst h
  obtain ⟨h0, h1, hf, hs⟩ := alloc2 w t0 t1 c0 c1 _ rfl
  refine ⟨h0.alloc _, h1.alloc _, ?_, hf.alloc _⟩
  have h := Blk.new ((w.alloc (.cells c0 t0)).alloc (.cells c1 t1)) t2 c2
  rwa [hs] at h

theorem Advance_int (leaf chain : Nat) (h1 : leaf ≤ 65535) (h2 : chain ≤ 34) (A B : Int) (hA : 0 ≤ A) (hAB : A ≤ B) (hB : B ≤ 15) (v : By 16) (w : World) :
    Calls Try.prog 20 #[.int .i64 (leaf : Int), .int .i64 (chain : Int), .int .i64 A, .int .i64 B, .agg (bs v.1).toArray] w fun e w' => ∃ X : By 16, e = .returned (.tuple #[.agg (bs X.1).toArray, .int .i64 0]) ∧ X.1 = advB leaf chain A.toNat (B - A).toNat v.1 ∧ Fr0 w w' := by
  obtain ⟨a, rfl⟩ := Int.eq_ofNat_of_zero_le hA
  obtain ⟨b, rfl⟩ := Int.eq_ofNat_of_zero_le (Int.le_trans hA hAB)
  refine (Advance_ok leaf chain a b v h1 h2 (by omega) (by omega) w).mono ?_
  rintro e w' ⟨rfl, hf⟩
  exact ⟨⟨_, advB_length leaf chain a (b - a) v.1 v.2⟩, rfl, by rw [Int.toNat_natCast, show ((b : Int) - (a : Int)).toNat = b - a by omega], hf⟩
theorem adv_comp (leaf chain : Nat) (A B C : Int) (hA : 0 ≤ A) (hAB : A ≤ B) (hBC : B ≤ C) (v : List UInt8) : advB leaf chain B.toNat (C - B).toNat (advB leaf chain A.toNat (B - A).toNat v) = advB leaf chain A.toNat (C - A).toNat v := by
  have h1 : B.toNat = A.toNat + (B - A).toNat := by omega
  have h2 : (C - A).toNat = (B - A).toNat + (C - B).toNat := by omega
  rw [h1, advB_add, ← h2]
theorem run_by_same (X Y : By 16) (h : X.1 = Y.1) (w : World) : (eqv 22 (.agg (bs X.1).toArray) (.agg (bs Y.1).toArray)).run Try.prog w = .ok (.bool true) w := by
  rw [h]; exact run_a16_same w Y.1 Y.2

set_option maxHeartbeats 1600000 in
theorem parts_0 (p0 p1 x y z : Nat) (h0 : p0 < 65536) (h1 : p1 < 65536) (hx : x < 256) (hy : y < 256) (hz : z < 256) (a b c : Nat) (ha : x % 16 = a) (hb : y % 16 = b) (hc : z % 16 = c) (q1 : a < b) (q2 : b < c) (q3 : a < c) (v : By 16) (w : World) :
    Calls Try.prog 7 #[.agg #[.int .u16 (p0 : Int), .int .u16 (p1 : Int)], .agg #[.int .u8 (x : Int), .int .u8 (y : Int), .int .u8 (z : Int)], .agg (bs v.1).toArray] w fun e w' => e = .returned (.bool true) ∧ Fr0 w w' := by
  have hsz : (bs v.1).toArray.size = 16 := by simp [v.2]
  obtain ⟨V, HV⟩ := nm (bs v.1).toArray
  rw [← HV.out] at hsz ⊢
  obtain ⟨w1, HW1⟩ := nm (((w.alloc (.cells #[.int .u16 (p0 : Int), .int .u16 (p1 : Int)] 46)).alloc (.cells #[.int .u8 (x : Int), .int .u8 (y : Int), .int .u8 (z : Int)] 47)).alloc (.cells V 22))
  obtain ⟨hb0, hb1, hb2, hf1⟩ := alloc3n _ _ _ _ _ _ _ _ HW1.out
  have c0 : w1.cell? ⟨w.heap.size, 0, none⟩ = some (.int .u16 (p0 : Int)) := hb0.cell 0
  have c1 : w1.cell? ⟨w.heap.size, 1, none⟩ = some (.int .u16 (p1 : Int)) := hb0.cell 1
  have c2 : w1.cell? ⟨w.heap.size + 1, 0, none⟩ = some (.int .u8 (x : Int)) := hb1.cell 0
  have c3 : w1.cell? ⟨w.heap.size + 1, 1, none⟩ = some (.int .u8 (y : Int)) := hb1.cell 1
  have c4 : w1.cell? ⟨w.heap.size + 1, 2, none⟩ = some (.int .u8 (z : Int)) := hb1.cell 2
  have HB2 := Lib.hid hb2
  have HF1 := Lib.hid hf1
  have ha' : (x : Int) % 16 = (a : Int) := by omega
  have hb' : (y : Int) % 16 = (b : Int) := by omega
  have hc' : (z : Int) % 16 = (c : Int) := by omega
  obtain ⟨ka, ha15⟩ : ∃ k : Nat, k = p1 % 35 := ⟨_, rfl⟩
  have hk : (p1 : Int) % 35 = (ka : Int) := by omega
  have hk34 : ka ≤ 34 := by omega
  have a15 : a ≤ 15 := by omega
  have b15 : b ≤ 15 := by omega
  have c15 : c ≤ 15 := by omega
  have hp0 : p0 ≤ 65535 := by omega
  clear hb0 hb1 hb2 hf1 ha hb hc ha15
  go_enter Try.func7, Try.ntmps7
  go_wp2_with fail
  rw [← HW1.out]
  go_quiet (fail)
  obtain ⟨nq0, hnq0⟩ : ∃ n, n = nq := ⟨_, rfl⟩
  rw [← hnq0]
  clear hnq0 nq
  go_wp2_with fail
  go_quiet (fail)
  clear c0 c1 c2 c3 c4
  obtain ⟨w2, HW2⟩ := nm ((w1.drewN nq0).drewN nq)
  have HV2 := Lib.hid (show Blk w2 (w.heap.size + 2) 22 V from by rw [HW2.out]; exact (HB2.out.drewN _).drewN _)
  have HF2 := Lib.hid (show Fr0 w w2 from by rw [HW2.out]; exact (HF1.out.drewN _).drewN _)
  have hl2 := HV2.out.all hsz
  rw [← HW2.out]
  go_wp2_with fail
  rw [HV.out]
  refine (Advance_int p0 ka hp0 hk34 _ _ (by omega) (by omega) (by omega) v _).mono ?_
  rintro e w3 ⟨X, rfl, hX, hf3⟩
  rw [← HV.out]
  have hstX := a16_st X
  have hsX : (bs X.1).toArray.size = 16 := by simp
  obtain ⟨Xa, HXa⟩ := nm (bs X.1).toArray
  rw [← HXa.out] at hstX hsX ⊢
  have HX := Lib.hid hX
  have HV3 := Lib.hid (HV2.out.fr hf3 (fun h => h))
  have HF3 := Lib.hid (HF2.out.trans hf3)
  clear hf3 hl2 hX
  obtain ⟨w4, HW4⟩ := nm (w3.alloc (.cells Xa 22))
  have HX4 := Lib.hid (show Blk w4 w3.heap.size 22 Xa from by rw [HW4.out]; exact Blk.new _ _ _)
  have HV4 := Lib.hid (show Blk w4 (w.heap.size + 2) 22 V from by rw [HW4.out]; exact HV3.out.alloc _)
  have HF4 := Lib.hid (show Fr0 w w4 from by rw [HW4.out]; exact HF3.out.alloc _)
  go_wp2_with fail
  rw [← HW4.out, HXa.out]
  refine (Advance_int p0 ka hp0 hk34 _ _ (by omega) (by omega) (by omega) X _).mono ?_
  rintro e w5 ⟨Y, rfl, hY, hf5⟩
  rw [← HXa.out]
  have hstY := a16_st Y
  have hsY : (bs Y.1).toArray.size = 16 := by simp
  obtain ⟨Ya, HYa⟩ := nm (bs Y.1).toArray
  rw [← HYa.out] at hstY hsY ⊢
  have HY := Lib.hid hY
  have HV5 := Lib.hid (HV4.out.fr hf5 (fun h => h))
  have HF5 := Lib.hid (HF4.out.trans hf5)
  clear hf5 hY
  obtain ⟨w6, HW6⟩ := nm (w5.alloc (.cells Ya 22))
  have HY6 := Lib.hid (show Blk w6 w5.heap.size 22 Ya from by rw [HW6.out]; exact Blk.new _ _ _)
  have HV6 := Lib.hid (show Blk w6 (w.heap.size + 2) 22 V from by rw [HW6.out]; exact HV5.out.alloc _)
  have HF6 := Lib.hid (show Fr0 w w6 from by rw [HW6.out]; exact HF5.out.alloc _)
  have hl6 : ldA (w5.alloc (.cells Ya 22)) (w.heap.size + 2) 0 16 = some V := (HV5.out.alloc _).all hsz
  go_wp2_with fail
  rw [← HW6.out, HV.out]
  refine (Advance_int p0 ka hp0 hk34 _ _ (by omega) (by omega) (by omega) v _).mono ?_
  rintro e w7 ⟨Z, rfl, hZ, hf7⟩
  have hYZ : Y.1 = Z.1 := by rw [HY.out, HX.out, hZ]; exact adv_comp _ _ _ _ _ (by omega) (by omega) (by omega) _
  have heq := run_by_same Y Z hYZ
  rw [← HV.out]
  have hstZ := a16_st Z
  have hsZ : (bs Z.1).toArray.size = 16 := by simp
  obtain ⟨Za, HZa⟩ := nm (bs Z.1).toArray
  rw [← HZa.out] at hstZ hsZ heq ⊢
  rw [← HYa.out] at heq
  have HY7 := Lib.hid (HY6.out.fr hf7 (fun h => h))
  have HF7 := Lib.hid (HF6.out.trans hf7)
  clear hf7 hl6 hZ hYZ
  obtain ⟨w8, HW8⟩ := nm (w7.alloc (.cells Za 22))
  have HZ8 := Lib.hid (show Blk w8 w7.heap.size 22 Za from by rw [HW8.out]; exact Blk.new _ _ _)
  have HY8 := Lib.hid (show Blk w8 w5.heap.size 22 Ya from by rw [HW8.out]; exact HY7.out.alloc _)
  have HF8 := Lib.hid (show Fr0 w w8 from by rw [HW8.out]; exact HF7.out.alloc _)
  go_wp2_with fail
  rw [← HW8.out]
  refine (known_any _).mono ?_
  rintro e w9 ⟨rfl, hf9⟩
  have lY := (HY8.out.fr hf9 (fun h => h)).all hsY
  have lZ := (HZ8.out.fr hf9 (fun h => h)).all hsZ
  have HF9 := Lib.hid (HF8.out.trans hf9)
  clear hf9
  go_wp2_with fail
  go_ret
  exact ⟨rfl, HF9.out⟩

set_option maxHeartbeats 1600000 in
theorem parts_1 (p0 p1 x y z : Nat) (h0 : p0 < 65536) (h1 : p1 < 65536) (hx : x < 256) (hy : y < 256) (hz : z < 256) (a b c : Nat) (ha : x % 16 = a) (hb : y % 16 = b) (hc : z % 16 = c) (q1 : a < b) (q2 : b ≤ c ∧ c ≤ b) (q3 : a < c) (v : By 16) (w : World) :
    Calls Try.prog 7 #[.agg #[.int .u16 (p0 : Int), .int .u16 (p1 : Int)], .agg #[.int .u8 (x : Int), .int .u8 (y : Int), .int .u8 (z : Int)], .agg (bs v.1).toArray] w fun e w' => e = .returned (.bool true) ∧ Fr0 w w' := by
  obtain ⟨q2a, q2b⟩ := q2
  have hsz : (bs v.1).toArray.size = 16 := by simp [v.2]
  obtain ⟨V, HV⟩ := nm (bs v.1).toArray
  rw [← HV.out] at hsz ⊢
  obtain ⟨w1, HW1⟩ := nm (((w.alloc (.cells #[.int .u16 (p0 : Int), .int .u16 (p1 : Int)] 46)).alloc (.cells #[.int .u8 (x : Int), .int .u8 (y : Int), .int .u8 (z : Int)] 47)).alloc (.cells V 22))
  obtain ⟨hb0, hb1, hb2, hf1⟩ := alloc3n _ _ _ _ _ _ _ _ HW1.out
  have c0 : w1.cell? ⟨w.heap.size, 0, none⟩ = some (.int .u16 (p0 : Int)) := hb0.cell 0
  have c1 : w1.cell? ⟨w.heap.size, 1, none⟩ = some (.int .u16 (p1 : Int)) := hb0.cell 1
  have c2 : w1.cell? ⟨w.heap.size + 1, 0, none⟩ = some (.int .u8 (x : Int)) := hb1.cell 0
  have c3 : w1.cell? ⟨w.heap.size + 1, 1, none⟩ = some (.int .u8 (y : Int)) := hb1.cell 1
  have c4 : w1.cell? ⟨w.heap.size + 1, 2, none⟩ = some (.int .u8 (z : Int)) := hb1.cell 2
  have HB2 := Lib.hid hb2
  have HF1 := Lib.hid hf1
  have ha' : (x : Int) % 16 = (a : Int) := by omega
  have hb' : (y : Int) % 16 = (b : Int) := by omega
  have hc' : (z : Int) % 16 = (c : Int) := by omega
  obtain ⟨ka, ha15⟩ : ∃ k : Nat, k = p1 % 35 := ⟨_, rfl⟩
  have hk : (p1 : Int) % 35 = (ka : Int) := by omega
  have hk34 : ka ≤ 34 := by omega
  have a15 : a ≤ 15 := by omega
  have b15 : b ≤ 15 := by omega
  have c15 : c ≤ 15 := by omega
  have hp0 : p0 ≤ 65535 := by omega
  clear hb0 hb1 hb2 hf1 ha hb hc ha15
  go_enter Try.func7, Try.ntmps7
  go_wp2_with fail
  rw [← HW1.out]
  go_quiet (fail)
  obtain ⟨nq0, hnq0⟩ : ∃ n, n = nq := ⟨_, rfl⟩
  rw [← hnq0]
  clear hnq0 nq
  go_wp2_with fail
  go_quiet (fail)
  clear c0 c1 c2 c3 c4
  obtain ⟨w2, HW2⟩ := nm ((w1.drewN nq0).drewN nq)
  have HV2 := Lib.hid (show Blk w2 (w.heap.size + 2) 22 V from by rw [HW2.out]; exact (HB2.out.drewN _).drewN _)
  have HF2 := Lib.hid (show Fr0 w w2 from by rw [HW2.out]; exact (HF1.out.drewN _).drewN _)
  have hl2 := HV2.out.all hsz
  rw [← HW2.out]
  go_wp2_with fail
  rw [HV.out]
  refine (Advance_int p0 ka hp0 hk34 _ _ (by omega) (by omega) (by omega) v _).mono ?_
  rintro e w3 ⟨X, rfl, hX, hf3⟩
  rw [← HV.out]
  have hstX := a16_st X
  have hsX : (bs X.1).toArray.size = 16 := by simp
  obtain ⟨Xa, HXa⟩ := nm (bs X.1).toArray
  rw [← HXa.out] at hstX hsX ⊢
  have HX := Lib.hid hX
  have HV3 := Lib.hid (HV2.out.fr hf3 (fun h => h))
  have HF3 := Lib.hid (HF2.out.trans hf3)
  clear hf3 hl2 hX
  obtain ⟨w4, HW4⟩ := nm (w3.alloc (.cells Xa 22))
  have HX4 := Lib.hid (show Blk w4 w3.heap.size 22 Xa from by rw [HW4.out]; exact Blk.new _ _ _)
  have HV4 := Lib.hid (show Blk w4 (w.heap.size + 2) 22 V from by rw [HW4.out]; exact HV3.out.alloc _)
  have HF4 := Lib.hid (show Fr0 w w4 from by rw [HW4.out]; exact HF3.out.alloc _)
  go_wp2_with fail
  rw [← HW4.out, HXa.out]
  refine (Advance_int p0 ka hp0 hk34 _ _ (by omega) (by omega) (by omega) X _).mono ?_
  rintro e w5 ⟨Y, rfl, hY, hf5⟩
  rw [← HXa.out]
  have hstY := a16_st Y
  have hsY : (bs Y.1).toArray.size = 16 := by simp
  obtain ⟨Ya, HYa⟩ := nm (bs Y.1).toArray
  rw [← HYa.out] at hstY hsY ⊢
  have HY := Lib.hid hY
  have HV5 := Lib.hid (HV4.out.fr hf5 (fun h => h))
  have HF5 := Lib.hid (HF4.out.trans hf5)
  clear hf5 hY
  obtain ⟨w6, HW6⟩ := nm (w5.alloc (.cells Ya 22))
  have HY6 := Lib.hid (show Blk w6 w5.heap.size 22 Ya from by rw [HW6.out]; exact Blk.new _ _ _)
  have HV6 := Lib.hid (show Blk w6 (w.heap.size + 2) 22 V from by rw [HW6.out]; exact HV5.out.alloc _)
  have HF6 := Lib.hid (show Fr0 w w6 from by rw [HW6.out]; exact HF5.out.alloc _)
  have hl6 : ldA (w5.alloc (.cells Ya 22)) (w.heap.size + 2) 0 16 = some V := (HV5.out.alloc _).all hsz
  go_wp2_with fail
  rw [← HW6.out, HV.out]
  refine (Advance_int p0 ka hp0 hk34 _ _ (by omega) (by omega) (by omega) v _).mono ?_
  rintro e w7 ⟨Z, rfl, hZ, hf7⟩
  have hYZ : Y.1 = Z.1 := by rw [HY.out, HX.out, hZ]; exact adv_comp _ _ _ _ _ (by omega) (by omega) (by omega) _
  have heq := run_by_same Y Z hYZ
  rw [← HV.out]
  have hstZ := a16_st Z
  have hsZ : (bs Z.1).toArray.size = 16 := by simp
  obtain ⟨Za, HZa⟩ := nm (bs Z.1).toArray
  rw [← HZa.out] at hstZ hsZ heq ⊢
  rw [← HYa.out] at heq
  have HY7 := Lib.hid (HY6.out.fr hf7 (fun h => h))
  have HF7 := Lib.hid (HF6.out.trans hf7)
  clear hf7 hl6 hZ hYZ
  obtain ⟨w8, HW8⟩ := nm (w7.alloc (.cells Za 22))
  have HZ8 := Lib.hid (show Blk w8 w7.heap.size 22 Za from by rw [HW8.out]; exact Blk.new _ _ _)
  have HY8 := Lib.hid (show Blk w8 w5.heap.size 22 Ya from by rw [HW8.out]; exact HY7.out.alloc _)
  have HF8 := Lib.hid (show Fr0 w w8 from by rw [HW8.out]; exact HF7.out.alloc _)
  go_wp2_with fail
  rw [← HW8.out]
  refine (known_any _).mono ?_
  rintro e w9 ⟨rfl, hf9⟩
  have lY := (HY8.out.fr hf9 (fun h => h)).all hsY
  have lZ := (HZ8.out.fr hf9 (fun h => h)).all hsZ
  have HF9 := Lib.hid (HF8.out.trans hf9)
  clear hf9
  go_wp2_with fail
  go_ret
  exact ⟨rfl, HF9.out⟩

set_option maxHeartbeats 1600000 in
theorem parts_2 (p0 p1 x y z : Nat) (h0 : p0 < 65536) (h1 : p1 < 65536) (hx : x < 256) (hy : y < 256) (hz : z < 256) (a b c : Nat) (ha : x % 16 = a) (hb : y % 16 = b) (hc : z % 16 = c) (q1 : a < b) (q2 : c < b) (q3 : a < c) (v : By 16) (w : World) :
    Calls Try.prog 7 #[.agg #[.int .u16 (p0 : Int), .int .u16 (p1 : Int)], .agg #[.int .u8 (x : Int), .int .u8 (y : Int), .int .u8 (z : Int)], .agg (bs v.1).toArray] w fun e w' => e = .returned (.bool true) ∧ Fr0 w w' := by
  have hsz : (bs v.1).toArray.size = 16 := by simp [v.2]
  obtain ⟨V, HV⟩ := nm (bs v.1).toArray
  rw [← HV.out] at hsz ⊢
  obtain ⟨w1, HW1⟩ := nm (((w.alloc (.cells #[.int .u16 (p0 : Int), .int .u16 (p1 : Int)] 46)).alloc (.cells #[.int .u8 (x : Int), .int .u8 (y : Int), .int .u8 (z : Int)] 47)).alloc (.cells V 22))
  obtain ⟨hb0, hb1, hb2, hf1⟩ := alloc3n _ _ _ _ _ _ _ _ HW1.out
  have c0 : w1.cell? ⟨w.heap.size, 0, none⟩ = some (.int .u16 (p0 : Int)) := hb0.cell 0
  have c1 : w1.cell? ⟨w.heap.size, 1, none⟩ = some (.int .u16 (p1 : Int)) := hb0.cell 1
  have c2 : w1.cell? ⟨w.heap.size + 1, 0, none⟩ = some (.int .u8 (x : Int)) := hb1.cell 0
  have c3 : w1.cell? ⟨w.heap.size + 1, 1, none⟩ = some (.int .u8 (y : Int)) := hb1.cell 1
  have c4 : w1.cell? ⟨w.heap.size + 1, 2, none⟩ = some (.int .u8 (z : Int)) := hb1.cell 2
  have HB2 := Lib.hid hb2
  have HF1 := Lib.hid hf1
  have ha' : (x : Int) % 16 = (a : Int) := by omega
  have hb' : (y : Int) % 16 = (b : Int) := by omega
  have hc' : (z : Int) % 16 = (c : Int) := by omega
  obtain ⟨ka, ha15⟩ : ∃ k : Nat, k = p1 % 35 := ⟨_, rfl⟩
  have hk : (p1 : Int) % 35 = (ka : Int) := by omega
  have hk34 : ka ≤ 34 := by omega
  have a15 : a ≤ 15 := by omega
  have b15 : b ≤ 15 := by omega
  have c15 : c ≤ 15 := by omega
  have hp0 : p0 ≤ 65535 := by omega
  clear hb0 hb1 hb2 hf1 ha hb hc ha15
  go_enter Try.func7, Try.ntmps7
  go_wp2_with fail
  rw [← HW1.out]
  go_quiet (fail)
  obtain ⟨nq0, hnq0⟩ : ∃ n, n = nq := ⟨_, rfl⟩
  rw [← hnq0]
  clear hnq0 nq
  go_wp2_with fail
  go_quiet (fail)
  clear c0 c1 c2 c3 c4
  obtain ⟨w2, HW2⟩ := nm ((w1.drewN nq0).drewN nq)
  have HV2 := Lib.hid (show Blk w2 (w.heap.size + 2) 22 V from by rw [HW2.out]; exact (HB2.out.drewN _).drewN _)
  have HF2 := Lib.hid (show Fr0 w w2 from by rw [HW2.out]; exact (HF1.out.drewN _).drewN _)
  have hl2 := HV2.out.all hsz
  rw [← HW2.out]
  go_wp2_with fail
  rw [HV.out]
  refine (Advance_int p0 ka hp0 hk34 _ _ (by omega) (by omega) (by omega) v _).mono ?_
  rintro e w3 ⟨X, rfl, hX, hf3⟩
  rw [← HV.out]
  have hstX := a16_st X
  have hsX : (bs X.1).toArray.size = 16 := by simp
  obtain ⟨Xa, HXa⟩ := nm (bs X.1).toArray
  rw [← HXa.out] at hstX hsX ⊢
  have HX := Lib.hid hX
  have HV3 := Lib.hid (HV2.out.fr hf3 (fun h => h))
  have HF3 := Lib.hid (HF2.out.trans hf3)
  clear hf3 hl2 hX
  obtain ⟨w4, HW4⟩ := nm (w3.alloc (.cells Xa 22))
  have HX4 := Lib.hid (show Blk w4 w3.heap.size 22 Xa from by rw [HW4.out]; exact Blk.new _ _ _)
  have HV4 := Lib.hid (show Blk w4 (w.heap.size + 2) 22 V from by rw [HW4.out]; exact HV3.out.alloc _)
  have HF4 := Lib.hid (show Fr0 w w4 from by rw [HW4.out]; exact HF3.out.alloc _)
  go_wp2_with fail
  rw [← HW4.out, HXa.out]
  refine (Advance_int p0 ka hp0 hk34 _ _ (by omega) (by omega) (by omega) X _).mono ?_
  rintro e w5 ⟨Y, rfl, hY, hf5⟩
  rw [← HXa.out]
  have hstY := a16_st Y
  have hsY : (bs Y.1).toArray.size = 16 := by simp
  obtain ⟨Ya, HYa⟩ := nm (bs Y.1).toArray
  rw [← HYa.out] at hstY hsY ⊢
  have HY := Lib.hid hY
  have HV5 := Lib.hid (HV4.out.fr hf5 (fun h => h))
  have HF5 := Lib.hid (HF4.out.trans hf5)
  clear hf5 hY
  obtain ⟨w6, HW6⟩ := nm (w5.alloc (.cells Ya 22))
  have HY6 := Lib.hid (show Blk w6 w5.heap.size 22 Ya from by rw [HW6.out]; exact Blk.new _ _ _)
  have HV6 := Lib.hid (show Blk w6 (w.heap.size + 2) 22 V from by rw [HW6.out]; exact HV5.out.alloc _)
  have HF6 := Lib.hid (show Fr0 w w6 from by rw [HW6.out]; exact HF5.out.alloc _)
  have hl6 : ldA (w5.alloc (.cells Ya 22)) (w.heap.size + 2) 0 16 = some V := (HV5.out.alloc _).all hsz
  go_wp2_with fail
  rw [← HW6.out, HV.out]
  refine (Advance_int p0 ka hp0 hk34 _ _ (by omega) (by omega) (by omega) v _).mono ?_
  rintro e w7 ⟨Z, rfl, hZ, hf7⟩
  have hYZ : Y.1 = Z.1 := by rw [HY.out, HX.out, hZ]; exact adv_comp _ _ _ _ _ (by omega) (by omega) (by omega) _
  have heq := run_by_same Y Z hYZ
  rw [← HV.out]
  have hstZ := a16_st Z
  have hsZ : (bs Z.1).toArray.size = 16 := by simp
  obtain ⟨Za, HZa⟩ := nm (bs Z.1).toArray
  rw [← HZa.out] at hstZ hsZ heq ⊢
  rw [← HYa.out] at heq
  have HY7 := Lib.hid (HY6.out.fr hf7 (fun h => h))
  have HF7 := Lib.hid (HF6.out.trans hf7)
  clear hf7 hl6 hZ hYZ
  obtain ⟨w8, HW8⟩ := nm (w7.alloc (.cells Za 22))
  have HZ8 := Lib.hid (show Blk w8 w7.heap.size 22 Za from by rw [HW8.out]; exact Blk.new _ _ _)
  have HY8 := Lib.hid (show Blk w8 w5.heap.size 22 Ya from by rw [HW8.out]; exact HY7.out.alloc _)
  have HF8 := Lib.hid (show Fr0 w w8 from by rw [HW8.out]; exact HF7.out.alloc _)
  go_wp2_with fail
  rw [← HW8.out]
  refine (known_any _).mono ?_
  rintro e w9 ⟨rfl, hf9⟩
  have lY := (HY8.out.fr hf9 (fun h => h)).all hsY
  have lZ := (HZ8.out.fr hf9 (fun h => h)).all hsZ
  have HF9 := Lib.hid (HF8.out.trans hf9)
  clear hf9
  go_wp2_with fail
  go_ret
  exact ⟨rfl, HF9.out⟩

set_option maxHeartbeats 1600000 in
theorem parts_3 (p0 p1 x y z : Nat) (h0 : p0 < 65536) (h1 : p1 < 65536) (hx : x < 256) (hy : y < 256) (hz : z < 256) (a b c : Nat) (ha : x % 16 = a) (hb : y % 16 = b) (hc : z % 16 = c) (q1 : a < b) (q2 : c < b) (q3 : a ≤ c ∧ c ≤ a) (v : By 16) (w : World) :
    Calls Try.prog 7 #[.agg #[.int .u16 (p0 : Int), .int .u16 (p1 : Int)], .agg #[.int .u8 (x : Int), .int .u8 (y : Int), .int .u8 (z : Int)], .agg (bs v.1).toArray] w fun e w' => e = .returned (.bool true) ∧ Fr0 w w' := by
  obtain ⟨q3a, q3b⟩ := q3
  have hsz : (bs v.1).toArray.size = 16 := by simp [v.2]
  obtain ⟨V, HV⟩ := nm (bs v.1).toArray
  rw [← HV.out] at hsz ⊢
  obtain ⟨w1, HW1⟩ := nm (((w.alloc (.cells #[.int .u16 (p0 : Int), .int .u16 (p1 : Int)] 46)).alloc (.cells #[.int .u8 (x : Int), .int .u8 (y : Int), .int .u8 (z : Int)] 47)).alloc (.cells V 22))
  obtain ⟨hb0, hb1, hb2, hf1⟩ := alloc3n _ _ _ _ _ _ _ _ HW1.out
  have c0 : w1.cell? ⟨w.heap.size, 0, none⟩ = some (.int .u16 (p0 : Int)) := hb0.cell 0
  have c1 : w1.cell? ⟨w.heap.size, 1, none⟩ = some (.int .u16 (p1 : Int)) := hb0.cell 1
  have c2 : w1.cell? ⟨w.heap.size + 1, 0, none⟩ = some (.int .u8 (x : Int)) := hb1.cell 0
  have c3 : w1.cell? ⟨w.heap.size + 1, 1, none⟩ = some (.int .u8 (y : Int)) := hb1.cell 1
  have c4 : w1.cell? ⟨w.heap.size + 1, 2, none⟩ = some (.int .u8 (z : Int)) := hb1.cell 2
  have HB2 := Lib.hid hb2
  have HF1 := Lib.hid hf1
  have ha' : (x : Int) % 16 = (a : Int) := by omega
  have hb' : (y : Int) % 16 = (b : Int) := by omega
  have hc' : (z : Int) % 16 = (c : Int) := by omega
  obtain ⟨ka, ha15⟩ : ∃ k : Nat, k = p1 % 35 := ⟨_, rfl⟩
  have hk : (p1 : Int) % 35 = (ka : Int) := by omega
  have hk34 : ka ≤ 34 := by omega
  have a15 : a ≤ 15 := by omega
  have b15 : b ≤ 15 := by omega
  have c15 : c ≤ 15 := by omega
  have hp0 : p0 ≤ 65535 := by omega
  clear hb0 hb1 hb2 hf1 ha hb hc ha15
  go_enter Try.func7, Try.ntmps7
  go_wp2_with fail
  rw [← HW1.out]
  go_quiet (fail)
  obtain ⟨nq0, hnq0⟩ : ∃ n, n = nq := ⟨_, rfl⟩
  rw [← hnq0]
  clear hnq0 nq
  go_wp2_with fail
  go_quiet (fail)
  clear c0 c1 c2 c3 c4
  obtain ⟨w2, HW2⟩ := nm ((w1.drewN nq0).drewN nq)
  have HV2 := Lib.hid (show Blk w2 (w.heap.size + 2) 22 V from by rw [HW2.out]; exact (HB2.out.drewN _).drewN _)
  have HF2 := Lib.hid (show Fr0 w w2 from by rw [HW2.out]; exact (HF1.out.drewN _).drewN _)
  have hl2 := HV2.out.all hsz
  rw [← HW2.out]
  go_wp2_with fail
  rw [HV.out]
  refine (Advance_int p0 ka hp0 hk34 _ _ (by omega) (by omega) (by omega) v _).mono ?_
  rintro e w3 ⟨X, rfl, hX, hf3⟩
  rw [← HV.out]
  have hstX := a16_st X
  have hsX : (bs X.1).toArray.size = 16 := by simp
  obtain ⟨Xa, HXa⟩ := nm (bs X.1).toArray
  rw [← HXa.out] at hstX hsX ⊢
  have HX := Lib.hid hX
  have HV3 := Lib.hid (HV2.out.fr hf3 (fun h => h))
  have HF3 := Lib.hid (HF2.out.trans hf3)
  clear hf3 hl2 hX
  obtain ⟨w4, HW4⟩ := nm (w3.alloc (.cells Xa 22))
  have HX4 := Lib.hid (show Blk w4 w3.heap.size 22 Xa from by rw [HW4.out]; exact Blk.new _ _ _)
  have HV4 := Lib.hid (show Blk w4 (w.heap.size + 2) 22 V from by rw [HW4.out]; exact HV3.out.alloc _)
  have HF4 := Lib.hid (show Fr0 w w4 from by rw [HW4.out]; exact HF3.out.alloc _)
  go_wp2_with fail
  rw [← HW4.out, HXa.out]
  refine (Advance_int p0 ka hp0 hk34 _ _ (by omega) (by omega) (by omega) X _).mono ?_
  rintro e w5 ⟨Y, rfl, hY, hf5⟩
  rw [← HXa.out]
  have hstY := a16_st Y
  have hsY : (bs Y.1).toArray.size = 16 := by simp
  obtain ⟨Ya, HYa⟩ := nm (bs Y.1).toArray
  rw [← HYa.out] at hstY hsY ⊢
  have HY := Lib.hid hY
  have HV5 := Lib.hid (HV4.out.fr hf5 (fun h => h))
  have HF5 := Lib.hid (HF4.out.trans hf5)
  clear hf5 hY
  obtain ⟨w6, HW6⟩ := nm (w5.alloc (.cells Ya 22))
  have HY6 := Lib.hid (show Blk w6 w5.heap.size 22 Ya from by rw [HW6.out]; exact Blk.new _ _ _)
  have HV6 := Lib.hid (show Blk w6 (w.heap.size + 2) 22 V from by rw [HW6.out]; exact HV5.out.alloc _)
  have HF6 := Lib.hid (show Fr0 w w6 from by rw [HW6.out]; exact HF5.out.alloc _)
  have hl6 : ldA (w5.alloc (.cells Ya 22)) (w.heap.size + 2) 0 16 = some V := (HV5.out.alloc _).all hsz
  go_wp2_with fail
  rw [← HW6.out, HV.out]
  refine (Advance_int p0 ka hp0 hk34 _ _ (by omega) (by omega) (by omega) v _).mono ?_
  rintro e w7 ⟨Z, rfl, hZ, hf7⟩
  have hYZ : Y.1 = Z.1 := by rw [HY.out, HX.out, hZ]; exact adv_comp _ _ _ _ _ (by omega) (by omega) (by omega) _
  have heq := run_by_same Y Z hYZ
  rw [← HV.out]
  have hstZ := a16_st Z
  have hsZ : (bs Z.1).toArray.size = 16 := by simp
  obtain ⟨Za, HZa⟩ := nm (bs Z.1).toArray
  rw [← HZa.out] at hstZ hsZ heq ⊢
  rw [← HYa.out] at heq
  have HY7 := Lib.hid (HY6.out.fr hf7 (fun h => h))
  have HF7 := Lib.hid (HF6.out.trans hf7)
  clear hf7 hl6 hZ hYZ
  obtain ⟨w8, HW8⟩ := nm (w7.alloc (.cells Za 22))
  have HZ8 := Lib.hid (show Blk w8 w7.heap.size 22 Za from by rw [HW8.out]; exact Blk.new _ _ _)
  have HY8 := Lib.hid (show Blk w8 w5.heap.size 22 Ya from by rw [HW8.out]; exact HY7.out.alloc _)
  have HF8 := Lib.hid (show Fr0 w w8 from by rw [HW8.out]; exact HF7.out.alloc _)
  go_wp2_with fail
  rw [← HW8.out]
  refine (known_any _).mono ?_
  rintro e w9 ⟨rfl, hf9⟩
  have lY := (HY8.out.fr hf9 (fun h => h)).all hsY
  have lZ := (HZ8.out.fr hf9 (fun h => h)).all hsZ
  have HF9 := Lib.hid (HF8.out.trans hf9)
  clear hf9
  go_wp2_with fail
  go_ret
  exact ⟨rfl, HF9.out⟩

set_option maxHeartbeats 1600000 in
theorem parts_4 (p0 p1 x y z : Nat) (h0 : p0 < 65536) (h1 : p1 < 65536) (hx : x < 256) (hy : y < 256) (hz : z < 256) (a b c : Nat) (ha : x % 16 = a) (hb : y % 16 = b) (hc : z % 16 = c) (q1 : a < b) (q2 : c < b) (q3 : c < a) (v : By 16) (w : World) :
    Calls Try.prog 7 #[.agg #[.int .u16 (p0 : Int), .int .u16 (p1 : Int)], .agg #[.int .u8 (x : Int), .int .u8 (y : Int), .int .u8 (z : Int)], .agg (bs v.1).toArray] w fun e w' => e = .returned (.bool true) ∧ Fr0 w w' := by
  have hsz : (bs v.1).toArray.size = 16 := by simp [v.2]
  obtain ⟨V, HV⟩ := nm (bs v.1).toArray
  rw [← HV.out] at hsz ⊢
  obtain ⟨w1, HW1⟩ := nm (((w.alloc (.cells #[.int .u16 (p0 : Int), .int .u16 (p1 : Int)] 46)).alloc (.cells #[.int .u8 (x : Int), .int .u8 (y : Int), .int .u8 (z : Int)] 47)).alloc (.cells V 22))
  obtain ⟨hb0, hb1, hb2, hf1⟩ := alloc3n _ _ _ _ _ _ _ _ HW1.out
  have c0 : w1.cell? ⟨w.heap.size, 0, none⟩ = some (.int .u16 (p0 : Int)) := hb0.cell 0
  have c1 : w1.cell? ⟨w.heap.size, 1, none⟩ = some (.int .u16 (p1 : Int)) := hb0.cell 1
  have c2 : w1.cell? ⟨w.heap.size + 1, 0, none⟩ = some (.int .u8 (x : Int)) := hb1.cell 0
  have c3 : w1.cell? ⟨w.heap.size + 1, 1, none⟩ = some (.int .u8 (y : Int)) := hb1.cell 1
  have c4 : w1.cell? ⟨w.heap.size + 1, 2, none⟩ = some (.int .u8 (z : Int)) := hb1.cell 2
  have HB2 := Lib.hid hb2
  have HF1 := Lib.hid hf1
  have ha' : (x : Int) % 16 = (a : Int) := by omega
  have hb' : (y : Int) % 16 = (b : Int) := by omega
  have hc' : (z : Int) % 16 = (c : Int) := by omega
  obtain ⟨ka, ha15⟩ : ∃ k : Nat, k = p1 % 35 := ⟨_, rfl⟩
  have hk : (p1 : Int) % 35 = (ka : Int) := by omega
  have hk34 : ka ≤ 34 := by omega
  have a15 : a ≤ 15 := by omega
  have b15 : b ≤ 15 := by omega
  have c15 : c ≤ 15 := by omega
  have hp0 : p0 ≤ 65535 := by omega
  clear hb0 hb1 hb2 hf1 ha hb hc ha15
  go_enter Try.func7, Try.ntmps7
  go_wp2_with fail
  rw [← HW1.out]
  go_quiet (fail)
  obtain ⟨nq0, hnq0⟩ : ∃ n, n = nq := ⟨_, rfl⟩
  rw [← hnq0]
  clear hnq0 nq
  go_wp2_with fail
  go_quiet (fail)
  clear c0 c1 c2 c3 c4
  obtain ⟨w2, HW2⟩ := nm ((w1.drewN nq0).drewN nq)
  have HV2 := Lib.hid (show Blk w2 (w.heap.size + 2) 22 V from by rw [HW2.out]; exact (HB2.out.drewN _).drewN _)
  have HF2 := Lib.hid (show Fr0 w w2 from by rw [HW2.out]; exact (HF1.out.drewN _).drewN _)
  have hl2 := HV2.out.all hsz
  rw [← HW2.out]
  go_wp2_with fail
  rw [HV.out]
  refine (Advance_int p0 ka hp0 hk34 _ _ (by omega) (by omega) (by omega) v _).mono ?_
  rintro e w3 ⟨X, rfl, hX, hf3⟩
  rw [← HV.out]
  have hstX := a16_st X
  have hsX : (bs X.1).toArray.size = 16 := by simp
  obtain ⟨Xa, HXa⟩ := nm (bs X.1).toArray
  rw [← HXa.out] at hstX hsX ⊢
  have HX := Lib.hid hX
  have HV3 := Lib.hid (HV2.out.fr hf3 (fun h => h))
  have HF3 := Lib.hid (HF2.out.trans hf3)
  clear hf3 hl2 hX
  obtain ⟨w4, HW4⟩ := nm (w3.alloc (.cells Xa 22))
  have HX4 := Lib.hid (show Blk w4 w3.heap.size 22 Xa from by rw [HW4.out]; exact Blk.new _ _ _)
  have HV4 := Lib.hid (show Blk w4 (w.heap.size + 2) 22 V from by rw [HW4.out]; exact HV3.out.alloc _)
  have HF4 := Lib.hid (show Fr0 w w4 from by rw [HW4.out]; exact HF3.out.alloc _)
  go_wp2_with fail
  rw [← HW4.out, HXa.out]
  refine (Advance_int p0 ka hp0 hk34 _ _ (by omega) (by omega) (by omega) X _).mono ?_
  rintro e w5 ⟨Y, rfl, hY, hf5⟩
  rw [← HXa.out]
  have hstY := a16_st Y
  have hsY : (bs Y.1).toArray.size = 16 := by simp
  obtain ⟨Ya, HYa⟩ := nm (bs Y.1).toArray
  rw [← HYa.out] at hstY hsY ⊢
  have HY := Lib.hid hY
  have HV5 := Lib.hid (HV4.out.fr hf5 (fun h => h))
  have HF5 := Lib.hid (HF4.out.trans hf5)
  clear hf5 hY
  obtain ⟨w6, HW6⟩ := nm (w5.alloc (.cells Ya 22))
  have HY6 := Lib.hid (show Blk w6 w5.heap.size 22 Ya from by rw [HW6.out]; exact Blk.new _ _ _)
  have HV6 := Lib.hid (show Blk w6 (w.heap.size + 2) 22 V from by rw [HW6.out]; exact HV5.out.alloc _)
  have HF6 := Lib.hid (show Fr0 w w6 from by rw [HW6.out]; exact HF5.out.alloc _)
  have hl6 : ldA (w5.alloc (.cells Ya 22)) (w.heap.size + 2) 0 16 = some V := (HV5.out.alloc _).all hsz
  go_wp2_with fail
  rw [← HW6.out, HV.out]
  refine (Advance_int p0 ka hp0 hk34 _ _ (by omega) (by omega) (by omega) v _).mono ?_
  rintro e w7 ⟨Z, rfl, hZ, hf7⟩
  have hYZ : Y.1 = Z.1 := by rw [HY.out, HX.out, hZ]; exact adv_comp _ _ _ _ _ (by omega) (by omega) (by omega) _
  have heq := run_by_same Y Z hYZ
  rw [← HV.out]
  have hstZ := a16_st Z
  have hsZ : (bs Z.1).toArray.size = 16 := by simp
  obtain ⟨Za, HZa⟩ := nm (bs Z.1).toArray
  rw [← HZa.out] at hstZ hsZ heq ⊢
  rw [← HYa.out] at heq
  have HY7 := Lib.hid (HY6.out.fr hf7 (fun h => h))
  have HF7 := Lib.hid (HF6.out.trans hf7)
  clear hf7 hl6 hZ hYZ
  obtain ⟨w8, HW8⟩ := nm (w7.alloc (.cells Za 22))
  have HZ8 := Lib.hid (show Blk w8 w7.heap.size 22 Za from by rw [HW8.out]; exact Blk.new _ _ _)
  have HY8 := Lib.hid (show Blk w8 w5.heap.size 22 Ya from by rw [HW8.out]; exact HY7.out.alloc _)
  have HF8 := Lib.hid (show Fr0 w w8 from by rw [HW8.out]; exact HF7.out.alloc _)
  go_wp2_with fail
  rw [← HW8.out]
  refine (known_any _).mono ?_
  rintro e w9 ⟨rfl, hf9⟩
  have lY := (HY8.out.fr hf9 (fun h => h)).all hsY
  have lZ := (HZ8.out.fr hf9 (fun h => h)).all hsZ
  have HF9 := Lib.hid (HF8.out.trans hf9)
  clear hf9
  go_wp2_with fail
  go_ret
  exact ⟨rfl, HF9.out⟩

set_option maxHeartbeats 1600000 in
theorem parts_5 (p0 p1 x y z : Nat) (h0 : p0 < 65536) (h1 : p1 < 65536) (hx : x < 256) (hy : y < 256) (hz : z < 256) (a b c : Nat) (ha : x % 16 = a) (hb : y % 16 = b) (hc : z % 16 = c) (q1 : a ≤ b ∧ b ≤ a) (q2 : b < c) (q3 : a < c) (v : By 16) (w : World) :
    Calls Try.prog 7 #[.agg #[.int .u16 (p0 : Int), .int .u16 (p1 : Int)], .agg #[.int .u8 (x : Int), .int .u8 (y : Int), .int .u8 (z : Int)], .agg (bs v.1).toArray] w fun e w' => e = .returned (.bool true) ∧ Fr0 w w' := by
  obtain ⟨q1a, q1b⟩ := q1
  have hsz : (bs v.1).toArray.size = 16 := by simp [v.2]
  obtain ⟨V, HV⟩ := nm (bs v.1).toArray
  rw [← HV.out] at hsz ⊢
  obtain ⟨w1, HW1⟩ := nm (((w.alloc (.cells #[.int .u16 (p0 : Int), .int .u16 (p1 : Int)] 46)).alloc (.cells #[.int .u8 (x : Int), .int .u8 (y : Int), .int .u8 (z : Int)] 47)).alloc (.cells V 22))
  obtain ⟨hb0, hb1, hb2, hf1⟩ := alloc3n _ _ _ _ _ _ _ _ HW1.out
  have c0 : w1.cell? ⟨w.heap.size, 0, none⟩ = some (.int .u16 (p0 : Int)) := hb0.cell 0
  have c1 : w1.cell? ⟨w.heap.size, 1, none⟩ = some (.int .u16 (p1 : Int)) := hb0.cell 1
  have c2 : w1.cell? ⟨w.heap.size + 1, 0, none⟩ = some (.int .u8 (x : Int)) := hb1.cell 0
  have c3 : w1.cell? ⟨w.heap.size + 1, 1, none⟩ = some (.int .u8 (y : Int)) := hb1.cell 1
  have c4 : w1.cell? ⟨w.heap.size + 1, 2, none⟩ = some (.int .u8 (z : Int)) := hb1.cell 2
  have HB2 := Lib.hid hb2
  have HF1 := Lib.hid hf1
  have ha' : (x : Int) % 16 = (a : Int) := by omega
  have hb' : (y : Int) % 16 = (b : Int) := by omega
  have hc' : (z : Int) % 16 = (c : Int) := by omega
  obtain ⟨ka, ha15⟩ : ∃ k : Nat, k = p1 % 35 := ⟨_, rfl⟩
  have hk : (p1 : Int) % 35 = (ka : Int) := by omega
  have hk34 : ka ≤ 34 := by omega
  have a15 : a ≤ 15 := by omega
  have b15 : b ≤ 15 := by omega
  have c15 : c ≤ 15 := by omega
  have hp0 : p0 ≤ 65535 := by omega
  clear hb0 hb1 hb2 hf1 ha hb hc ha15
  go_enter Try.func7, Try.ntmps7
  go_wp2_with fail
  rw [← HW1.out]
  go_quiet (fail)
  obtain ⟨nq0, hnq0⟩ : ∃ n, n = nq := ⟨_, rfl⟩
  rw [← hnq0]
  clear hnq0 nq
  go_wp2_with fail
  go_quiet (fail)
  clear c0 c1 c2 c3 c4
  obtain ⟨w2, HW2⟩ := nm ((w1.drewN nq0).drewN nq)
  have HV2 := Lib.hid (show Blk w2 (w.heap.size + 2) 22 V from by rw [HW2.out]; exact (HB2.out.drewN _).drewN _)
  have HF2 := Lib.hid (show Fr0 w w2 from by rw [HW2.out]; exact (HF1.out.drewN _).drewN _)
  have hl2 := HV2.out.all hsz
  rw [← HW2.out]
  go_wp2_with fail
  rw [HV.out]
  refine (Advance_int p0 ka hp0 hk34 _ _ (by omega) (by omega) (by omega) v _).mono ?_
  rintro e w3 ⟨X, rfl, hX, hf3⟩
  rw [← HV.out]
  have hstX := a16_st X
  have hsX : (bs X.1).toArray.size = 16 := by simp
  obtain ⟨Xa, HXa⟩ := nm (bs X.1).toArray
  rw [← HXa.out] at hstX hsX ⊢
  have HX := Lib.hid hX
  have HV3 := Lib.hid (HV2.out.fr hf3 (fun h => h))
  have HF3 := Lib.hid (HF2.out.trans hf3)
  clear hf3 hl2 hX
  obtain ⟨w4, HW4⟩ := nm (w3.alloc (.cells Xa 22))
  have HX4 := Lib.hid (show Blk w4 w3.heap.size 22 Xa from by rw [HW4.out]; exact Blk.new _ _ _)
  have HV4 := Lib.hid (show Blk w4 (w.heap.size + 2) 22 V from by rw [HW4.out]; exact HV3.out.alloc _)
  have HF4 := Lib.hid (show Fr0 w w4 from by rw [HW4.out]; exact HF3.out.alloc _)
  go_wp2_with fail
  rw [← HW4.out, HXa.out]
  refine (Advance_int p0 ka hp0 hk34 _ _ (by omega) (by omega) (by omega) X _).mono ?_
  rintro e w5 ⟨Y, rfl, hY, hf5⟩
  rw [← HXa.out]
  have hstY := a16_st Y
  have hsY : (bs Y.1).toArray.size = 16 := by simp
  obtain ⟨Ya, HYa⟩ := nm (bs Y.1).toArray
  rw [← HYa.out] at hstY hsY ⊢
  have HY := Lib.hid hY
  have HV5 := Lib.hid (HV4.out.fr hf5 (fun h => h))
  have HF5 := Lib.hid (HF4.out.trans hf5)
  clear hf5 hY
  obtain ⟨w6, HW6⟩ := nm (w5.alloc (.cells Ya 22))
  have HY6 := Lib.hid (show Blk w6 w5.heap.size 22 Ya from by rw [HW6.out]; exact Blk.new _ _ _)
  have HV6 := Lib.hid (show Blk w6 (w.heap.size + 2) 22 V from by rw [HW6.out]; exact HV5.out.alloc _)
  have HF6 := Lib.hid (show Fr0 w w6 from by rw [HW6.out]; exact HF5.out.alloc _)
  have hl6 : ldA (w5.alloc (.cells Ya 22)) (w.heap.size + 2) 0 16 = some V := (HV5.out.alloc _).all hsz
  go_wp2_with fail
  rw [← HW6.out, HV.out]
  refine (Advance_int p0 ka hp0 hk34 _ _ (by omega) (by omega) (by omega) v _).mono ?_
  rintro e w7 ⟨Z, rfl, hZ, hf7⟩
  have hYZ : Y.1 = Z.1 := by rw [HY.out, HX.out, hZ]; exact adv_comp _ _ _ _ _ (by omega) (by omega) (by omega) _
  have heq := run_by_same Y Z hYZ
  rw [← HV.out]
  have hstZ := a16_st Z
  have hsZ : (bs Z.1).toArray.size = 16 := by simp
  obtain ⟨Za, HZa⟩ := nm (bs Z.1).toArray
  rw [← HZa.out] at hstZ hsZ heq ⊢
  rw [← HYa.out] at heq
  have HY7 := Lib.hid (HY6.out.fr hf7 (fun h => h))
  have HF7 := Lib.hid (HF6.out.trans hf7)
  clear hf7 hl6 hZ hYZ
  obtain ⟨w8, HW8⟩ := nm (w7.alloc (.cells Za 22))
  have HZ8 := Lib.hid (show Blk w8 w7.heap.size 22 Za from by rw [HW8.out]; exact Blk.new _ _ _)
  have HY8 := Lib.hid (show Blk w8 w5.heap.size 22 Ya from by rw [HW8.out]; exact HY7.out.alloc _)
  have HF8 := Lib.hid (show Fr0 w w8 from by rw [HW8.out]; exact HF7.out.alloc _)
  go_wp2_with fail
  rw [← HW8.out]
  refine (known_any _).mono ?_
  rintro e w9 ⟨rfl, hf9⟩
  have lY := (HY8.out.fr hf9 (fun h => h)).all hsY
  have lZ := (HZ8.out.fr hf9 (fun h => h)).all hsZ
  have HF9 := Lib.hid (HF8.out.trans hf9)
  clear hf9
  go_wp2_with fail
  go_ret
  exact ⟨rfl, HF9.out⟩

set_option maxHeartbeats 1600000 in
theorem parts_6 (p0 p1 x y z : Nat) (h0 : p0 < 65536) (h1 : p1 < 65536) (hx : x < 256) (hy : y < 256) (hz : z < 256) (a b c : Nat) (ha : x % 16 = a) (hb : y % 16 = b) (hc : z % 16 = c) (q1 : a ≤ b ∧ b ≤ a) (q2 : b ≤ c ∧ c ≤ b) (q3 : a ≤ c ∧ c ≤ a) (v : By 16) (w : World) :
    Calls Try.prog 7 #[.agg #[.int .u16 (p0 : Int), .int .u16 (p1 : Int)], .agg #[.int .u8 (x : Int), .int .u8 (y : Int), .int .u8 (z : Int)], .agg (bs v.1).toArray] w fun e w' => e = .returned (.bool true) ∧ Fr0 w w' := by
  obtain ⟨q1a, q1b⟩ := q1
  obtain ⟨q2a, q2b⟩ := q2
  obtain ⟨q3a, q3b⟩ := q3
  have hsz : (bs v.1).toArray.size = 16 := by simp [v.2]
  obtain ⟨V, HV⟩ := nm (bs v.1).toArray
  rw [← HV.out] at hsz ⊢
  obtain ⟨w1, HW1⟩ := nm (((w.alloc (.cells #[.int .u16 (p0 : Int), .int .u16 (p1 : Int)] 46)).alloc (.cells #[.int .u8 (x : Int), .int .u8 (y : Int), .int .u8 (z : Int)] 47)).alloc (.cells V 22))
  obtain ⟨hb0, hb1, hb2, hf1⟩ := alloc3n _ _ _ _ _ _ _ _ HW1.out
  have c0 : w1.cell? ⟨w.heap.size, 0, none⟩ = some (.int .u16 (p0 : Int)) := hb0.cell 0
  have c1 : w1.cell? ⟨w.heap.size, 1, none⟩ = some (.int .u16 (p1 : Int)) := hb0.cell 1
  have c2 : w1.cell? ⟨w.heap.size + 1, 0, none⟩ = some (.int .u8 (x : Int)) := hb1.cell 0
  have c3 : w1.cell? ⟨w.heap.size + 1, 1, none⟩ = some (.int .u8 (y : Int)) := hb1.cell 1
  have c4 : w1.cell? ⟨w.heap.size + 1, 2, none⟩ = some (.int .u8 (z : Int)) := hb1.cell 2
  have HB2 := Lib.hid hb2
  have HF1 := Lib.hid hf1
  have ha' : (x : Int) % 16 = (a : Int) := by omega
  have hb' : (y : Int) % 16 = (b : Int) := by omega
  have hc' : (z : Int) % 16 = (c : Int) := by omega
  obtain ⟨ka, ha15⟩ : ∃ k : Nat, k = p1 % 35 := ⟨_, rfl⟩
  have hk : (p1 : Int) % 35 = (ka : Int) := by omega
  have hk34 : ka ≤ 34 := by omega
  have a15 : a ≤ 15 := by omega
  have b15 : b ≤ 15 := by omega
  have c15 : c ≤ 15 := by omega
  have hp0 : p0 ≤ 65535 := by omega
  clear hb0 hb1 hb2 hf1 ha hb hc ha15
  go_enter Try.func7, Try.ntmps7
  go_wp2_with fail
  rw [← HW1.out]
  go_quiet (fail)
  obtain ⟨nq0, hnq0⟩ : ∃ n, n = nq := ⟨_, rfl⟩
  rw [← hnq0]
  clear hnq0 nq
  go_wp2_with fail
  go_quiet (fail)
  clear c0 c1 c2 c3 c4
  obtain ⟨w2, HW2⟩ := nm ((w1.drewN nq0).drewN nq)
  have HV2 := Lib.hid (show Blk w2 (w.heap.size + 2) 22 V from by rw [HW2.out]; exact (HB2.out.drewN _).drewN _)
  have HF2 := Lib.hid (show Fr0 w w2 from by rw [HW2.out]; exact (HF1.out.drewN _).drewN _)
  have hl2 := HV2.out.all hsz
  rw [← HW2.out]
  go_wp2_with fail
  rw [HV.out]
  refine (Advance_int p0 ka hp0 hk34 _ _ (by omega) (by omega) (by omega) v _).mono ?_
  rintro e w3 ⟨X, rfl, hX, hf3⟩
  rw [← HV.out]
  have hstX := a16_st X
  have hsX : (bs X.1).toArray.size = 16 := by simp
  obtain ⟨Xa, HXa⟩ := nm (bs X.1).toArray
  rw [← HXa.out] at hstX hsX ⊢
  have HX := Lib.hid hX
  have HV3 := Lib.hid (HV2.out.fr hf3 (fun h => h))
  have HF3 := Lib.hid (HF2.out.trans hf3)
  clear hf3 hl2 hX
  obtain ⟨w4, HW4⟩ := nm (w3.alloc (.cells Xa 22))
  have HX4 := Lib.hid (show Blk w4 w3.heap.size 22 Xa from by rw [HW4.out]; exact Blk.new _ _ _)
  have HV4 := Lib.hid (show Blk w4 (w.heap.size + 2) 22 V from by rw [HW4.out]; exact HV3.out.alloc _)
  have HF4 := Lib.hid (show Fr0 w w4 from by rw [HW4.out]; exact HF3.out.alloc _)
  go_wp2_with fail
  rw [← HW4.out, HXa.out]
  refine (Advance_int p0 ka hp0 hk34 _ _ (by omega) (by omega) (by omega) X _).mono ?_
  rintro e w5 ⟨Y, rfl, hY, hf5⟩
  rw [← HXa.out]
  have hstY := a16_st Y
  have hsY : (bs Y.1).toArray.size = 16 := by simp
  obtain ⟨Ya, HYa⟩ := nm (bs Y.1).toArray
  rw [← HYa.out] at hstY hsY ⊢
  have HY := Lib.hid hY
  have HV5 := Lib.hid (HV4.out.fr hf5 (fun h => h))
  have HF5 := Lib.hid (HF4.out.trans hf5)
  clear hf5 hY
  obtain ⟨w6, HW6⟩ := nm (w5.alloc (.cells Ya 22))
  have HY6 := Lib.hid (show Blk w6 w5.heap.size 22 Ya from by rw [HW6.out]; exact Blk.new _ _ _)
  have HV6 := Lib.hid (show Blk w6 (w.heap.size + 2) 22 V from by rw [HW6.out]; exact HV5.out.alloc _)
  have HF6 := Lib.hid (show Fr0 w w6 from by rw [HW6.out]; exact HF5.out.alloc _)
  have hl6 : ldA (w5.alloc (.cells Ya 22)) (w.heap.size + 2) 0 16 = some V := (HV5.out.alloc _).all hsz
  go_wp2_with fail
  rw [← HW6.out, HV.out]
  refine (Advance_int p0 ka hp0 hk34 _ _ (by omega) (by omega) (by omega) v _).mono ?_
  rintro e w7 ⟨Z, rfl, hZ, hf7⟩
  have hYZ : Y.1 = Z.1 := by rw [HY.out, HX.out, hZ]; exact adv_comp _ _ _ _ _ (by omega) (by omega) (by omega) _
  have heq := run_by_same Y Z hYZ
  rw [← HV.out]
  have hstZ := a16_st Z
  have hsZ : (bs Z.1).toArray.size = 16 := by simp
  obtain ⟨Za, HZa⟩ := nm (bs Z.1).toArray
  rw [← HZa.out] at hstZ hsZ heq ⊢
  rw [← HYa.out] at heq
  have HY7 := Lib.hid (HY6.out.fr hf7 (fun h => h))
  have HF7 := Lib.hid (HF6.out.trans hf7)
  clear hf7 hl6 hZ hYZ
  obtain ⟨w8, HW8⟩ := nm (w7.alloc (.cells Za 22))
  have HZ8 := Lib.hid (show Blk w8 w7.heap.size 22 Za from by rw [HW8.out]; exact Blk.new _ _ _)
  have HY8 := Lib.hid (show Blk w8 w5.heap.size 22 Ya from by rw [HW8.out]; exact HY7.out.alloc _)
  have HF8 := Lib.hid (show Fr0 w w8 from by rw [HW8.out]; exact HF7.out.alloc _)
  go_wp2_with fail
  rw [← HW8.out]
  refine (known_any _).mono ?_
  rintro e w9 ⟨rfl, hf9⟩
  have lY := (HY8.out.fr hf9 (fun h => h)).all hsY
  have lZ := (HZ8.out.fr hf9 (fun h => h)).all hsZ
  have HF9 := Lib.hid (HF8.out.trans hf9)
  clear hf9
  go_wp2_with fail
  go_ret
  exact ⟨rfl, HF9.out⟩

set_option maxHeartbeats 1600000 in
theorem parts_7 (p0 p1 x y z : Nat) (h0 : p0 < 65536) (h1 : p1 < 65536) (hx : x < 256) (hy : y < 256) (hz : z < 256) (a b c : Nat) (ha : x % 16 = a) (hb : y % 16 = b) (hc : z % 16 = c) (q1 : a ≤ b ∧ b ≤ a) (q2 : c < b) (q3 : c < a) (v : By 16) (w : World) :
    Calls Try.prog 7 #[.agg #[.int .u16 (p0 : Int), .int .u16 (p1 : Int)], .agg #[.int .u8 (x : Int), .int .u8 (y : Int), .int .u8 (z : Int)], .agg (bs v.1).toArray] w fun e w' => e = .returned (.bool true) ∧ Fr0 w w' := by
  obtain ⟨q1a, q1b⟩ := q1
  have hsz : (bs v.1).toArray.size = 16 := by simp [v.2]
  obtain ⟨V, HV⟩ := nm (bs v.1).toArray
  rw [← HV.out] at hsz ⊢
  obtain ⟨w1, HW1⟩ := nm (((w.alloc (.cells #[.int .u16 (p0 : Int), .int .u16 (p1 : Int)] 46)).alloc (.cells #[.int .u8 (x : Int), .int .u8 (y : Int), .int .u8 (z : Int)] 47)).alloc (.cells V 22))
  obtain ⟨hb0, hb1, hb2, hf1⟩ := alloc3n _ _ _ _ _ _ _ _ HW1.out
  have c0 : w1.cell? ⟨w.heap.size, 0, none⟩ = some (.int .u16 (p0 : Int)) := hb0.cell 0
  have c1 : w1.cell? ⟨w.heap.size, 1, none⟩ = some (.int .u16 (p1 : Int)) := hb0.cell 1
  have c2 : w1.cell? ⟨w.heap.size + 1, 0, none⟩ = some (.int .u8 (x : Int)) := hb1.cell 0
  have c3 : w1.cell? ⟨w.heap.size + 1, 1, none⟩ = some (.int .u8 (y : Int)) := hb1.cell 1
  have c4 : w1.cell? ⟨w.heap.size + 1, 2, none⟩ = some (.int .u8 (z : Int)) := hb1.cell 2
  have HB2 := Lib.hid hb2
  have HF1 := Lib.hid hf1
  have ha' : (x : Int) % 16 = (a : Int) := by omega
  have hb' : (y : Int) % 16 = (b : Int) := by omega
  have hc' : (z : Int) % 16 = (c : Int) := by omega
  obtain ⟨ka, ha15⟩ : ∃ k : Nat, k = p1 % 35 := ⟨_, rfl⟩
  have hk : (p1 : Int) % 35 = (ka : Int) := by omega
  have hk34 : ka ≤ 34 := by omega
  have a15 : a ≤ 15 := by omega
  have b15 : b ≤ 15 := by omega
  have c15 : c ≤ 15 := by omega
  have hp0 : p0 ≤ 65535 := by omega
  clear hb0 hb1 hb2 hf1 ha hb hc ha15
  go_enter Try.func7, Try.ntmps7
  go_wp2_with fail
  rw [← HW1.out]
  go_quiet (fail)
  obtain ⟨nq0, hnq0⟩ : ∃ n, n = nq := ⟨_, rfl⟩
  rw [← hnq0]
  clear hnq0 nq
  go_wp2_with fail
  go_quiet (fail)
  clear c0 c1 c2 c3 c4
  obtain ⟨w2, HW2⟩ := nm ((w1.drewN nq0).drewN nq)
  have HV2 := Lib.hid (show Blk w2 (w.heap.size + 2) 22 V from by rw [HW2.out]; exact (HB2.out.drewN _).drewN _)
  have HF2 := Lib.hid (show Fr0 w w2 from by rw [HW2.out]; exact (HF1.out.drewN _).drewN _)
  have hl2 := HV2.out.all hsz
  rw [← HW2.out]
  go_wp2_with fail
  rw [HV.out]
  refine (Advance_int p0 ka hp0 hk34 _ _ (by omega) (by omega) (by omega) v _).mono ?_
  rintro e w3 ⟨X, rfl, hX, hf3⟩
  rw [← HV.out]
  have hstX := a16_st X
  have hsX : (bs X.1).toArray.size = 16 := by simp
  obtain ⟨Xa, HXa⟩ := nm (bs X.1).toArray
  rw [← HXa.out] at hstX hsX ⊢
  have HX := Lib.hid hX
  have HV3 := Lib.hid (HV2.out.fr hf3 (fun h => h))
  have HF3 := Lib.hid (HF2.out.trans hf3)
  clear hf3 hl2 hX
  obtain ⟨w4, HW4⟩ := nm (w3.alloc (.cells Xa 22))
  have HX4 := Lib.hid (show Blk w4 w3.heap.size 22 Xa from by rw [HW4.out]; exact Blk.new _ _ _)
  have HV4 := Lib.hid (show Blk w4 (w.heap.size + 2) 22 V from by rw [HW4.out]; exact HV3.out.alloc _)
  have HF4 := Lib.hid (show Fr0 w w4 from by rw [HW4.out]; exact HF3.out.alloc _)
  go_wp2_with fail
  rw [← HW4.out, HXa.out]
  refine (Advance_int p0 ka hp0 hk34 _ _ (by omega) (by omega) (by omega) X _).mono ?_
  rintro e w5 ⟨Y, rfl, hY, hf5⟩
  rw [← HXa.out]
  have hstY := a16_st Y
  have hsY : (bs Y.1).toArray.size = 16 := by simp
  obtain ⟨Ya, HYa⟩ := nm (bs Y.1).toArray
  rw [← HYa.out] at hstY hsY ⊢
  have HY := Lib.hid hY
  have HV5 := Lib.hid (HV4.out.fr hf5 (fun h => h))
  have HF5 := Lib.hid (HF4.out.trans hf5)
  clear hf5 hY
  obtain ⟨w6, HW6⟩ := nm (w5.alloc (.cells Ya 22))
  have HY6 := Lib.hid (show Blk w6 w5.heap.size 22 Ya from by rw [HW6.out]; exact Blk.new _ _ _)
  have HV6 := Lib.hid (show Blk w6 (w.heap.size + 2) 22 V from by rw [HW6.out]; exact HV5.out.alloc _)
  have HF6 := Lib.hid (show Fr0 w w6 from by rw [HW6.out]; exact HF5.out.alloc _)
  have hl6 : ldA (w5.alloc (.cells Ya 22)) (w.heap.size + 2) 0 16 = some V := (HV5.out.alloc _).all hsz
  go_wp2_with fail
  rw [← HW6.out, HV.out]
  refine (Advance_int p0 ka hp0 hk34 _ _ (by omega) (by omega) (by omega) v _).mono ?_
  rintro e w7 ⟨Z, rfl, hZ, hf7⟩
  have hYZ : Y.1 = Z.1 := by rw [HY.out, HX.out, hZ]; exact adv_comp _ _ _ _ _ (by omega) (by omega) (by omega) _
  have heq := run_by_same Y Z hYZ
  rw [← HV.out]
  have hstZ := a16_st Z
  have hsZ : (bs Z.1).toArray.size = 16 := by simp
  obtain ⟨Za, HZa⟩ := nm (bs Z.1).toArray
  rw [← HZa.out] at hstZ hsZ heq ⊢
  rw [← HYa.out] at heq
  have HY7 := Lib.hid (HY6.out.fr hf7 (fun h => h))
  have HF7 := Lib.hid (HF6.out.trans hf7)
  clear hf7 hl6 hZ hYZ
  obtain ⟨w8, HW8⟩ := nm (w7.alloc (.cells Za 22))
  have HZ8 := Lib.hid (show Blk w8 w7.heap.size 22 Za from by rw [HW8.out]; exact Blk.new _ _ _)
  have HY8 := Lib.hid (show Blk w8 w5.heap.size 22 Ya from by rw [HW8.out]; exact HY7.out.alloc _)
  have HF8 := Lib.hid (show Fr0 w w8 from by rw [HW8.out]; exact HF7.out.alloc _)
  go_wp2_with fail
  rw [← HW8.out]
  refine (known_any _).mono ?_
  rintro e w9 ⟨rfl, hf9⟩
  have lY := (HY8.out.fr hf9 (fun h => h)).all hsY
  have lZ := (HZ8.out.fr hf9 (fun h => h)).all hsZ
  have HF9 := Lib.hid (HF8.out.trans hf9)
  clear hf9
  go_wp2_with fail
  go_ret
  exact ⟨rfl, HF9.out⟩

set_option maxHeartbeats 1600000 in
theorem parts_8 (p0 p1 x y z : Nat) (h0 : p0 < 65536) (h1 : p1 < 65536) (hx : x < 256) (hy : y < 256) (hz : z < 256) (a b c : Nat) (ha : x % 16 = a) (hb : y % 16 = b) (hc : z % 16 = c) (q1 : b < a) (q2 : b < c) (q3 : a < c) (v : By 16) (w : World) :
    Calls Try.prog 7 #[.agg #[.int .u16 (p0 : Int), .int .u16 (p1 : Int)], .agg #[.int .u8 (x : Int), .int .u8 (y : Int), .int .u8 (z : Int)], .agg (bs v.1).toArray] w fun e w' => e = .returned (.bool true) ∧ Fr0 w w' := by
  have hsz : (bs v.1).toArray.size = 16 := by simp [v.2]
  obtain ⟨V, HV⟩ := nm (bs v.1).toArray
  rw [← HV.out] at hsz ⊢
  obtain ⟨w1, HW1⟩ := nm (((w.alloc (.cells #[.int .u16 (p0 : Int), .int .u16 (p1 : Int)] 46)).alloc (.cells #[.int .u8 (x : Int), .int .u8 (y : Int), .int .u8 (z : Int)] 47)).alloc (.cells V 22))
  obtain ⟨hb0, hb1, hb2, hf1⟩ := alloc3n _ _ _ _ _ _ _ _ HW1.out
  have c0 : w1.cell? ⟨w.heap.size, 0, none⟩ = some (.int .u16 (p0 : Int)) := hb0.cell 0
  have c1 : w1.cell? ⟨w.heap.size, 1, none⟩ = some (.int .u16 (p1 : Int)) := hb0.cell 1
  have c2 : w1.cell? ⟨w.heap.size + 1, 0, none⟩ = some (.int .u8 (x : Int)) := hb1.cell 0
  have c3 : w1.cell? ⟨w.heap.size + 1, 1, none⟩ = some (.int .u8 (y : Int)) := hb1.cell 1
  have c4 : w1.cell? ⟨w.heap.size + 1, 2, none⟩ = some (.int .u8 (z : Int)) := hb1.cell 2
  have HB2 := Lib.hid hb2
  have HF1 := Lib.hid hf1
  have ha' : (x : Int) % 16 = (a : Int) := by omega
  have hb' : (y : Int) % 16 = (b : Int) := by omega
  have hc' : (z : Int) % 16 = (c : Int) := by omega
  obtain ⟨ka, ha15⟩ : ∃ k : Nat, k = p1 % 35 := ⟨_, rfl⟩
  have hk : (p1 : Int) % 35 = (ka : Int) := by omega
  have hk34 : ka ≤ 34 := by omega
  have a15 : a ≤ 15 := by omega
  have b15 : b ≤ 15 := by omega
  have c15 : c ≤ 15 := by omega
  have hp0 : p0 ≤ 65535 := by omega
  clear hb0 hb1 hb2 hf1 ha hb hc ha15
  go_enter Try.func7, Try.ntmps7
  go_wp2_with fail
  rw [← HW1.out]
  go_quiet (fail)
  obtain ⟨nq0, hnq0⟩ : ∃ n, n = nq := ⟨_, rfl⟩
  rw [← hnq0]
  clear hnq0 nq
  go_wp2_with fail
  go_quiet (fail)
  clear c0 c1 c2 c3 c4
  obtain ⟨w2, HW2⟩ := nm ((w1.drewN nq0).drewN nq)
  have HV2 := Lib.hid (show Blk w2 (w.heap.size + 2) 22 V from by rw [HW2.out]; exact (HB2.out.drewN _).drewN _)
  have HF2 := Lib.hid (show Fr0 w w2 from by rw [HW2.out]; exact (HF1.out.drewN _).drewN _)
  have hl2 := HV2.out.all hsz
  rw [← HW2.out]
  go_wp2_with fail
  rw [HV.out]
  refine (Advance_int p0 ka hp0 hk34 _ _ (by omega) (by omega) (by omega) v _).mono ?_
  rintro e w3 ⟨X, rfl, hX, hf3⟩
  rw [← HV.out]
  have hstX := a16_st X
  have hsX : (bs X.1).toArray.size = 16 := by simp
  obtain ⟨Xa, HXa⟩ := nm (bs X.1).toArray
  rw [← HXa.out] at hstX hsX ⊢
  have HX := Lib.hid hX
  have HV3 := Lib.hid (HV2.out.fr hf3 (fun h => h))
  have HF3 := Lib.hid (HF2.out.trans hf3)
  clear hf3 hl2 hX
  obtain ⟨w4, HW4⟩ := nm (w3.alloc (.cells Xa 22))
  have HX4 := Lib.hid (show Blk w4 w3.heap.size 22 Xa from by rw [HW4.out]; exact Blk.new _ _ _)
  have HV4 := Lib.hid (show Blk w4 (w.heap.size + 2) 22 V from by rw [HW4.out]; exact HV3.out.alloc _)
  have HF4 := Lib.hid (show Fr0 w w4 from by rw [HW4.out]; exact HF3.out.alloc _)
  go_wp2_with fail
  rw [← HW4.out, HXa.out]
  refine (Advance_int p0 ka hp0 hk34 _ _ (by omega) (by omega) (by omega) X _).mono ?_
  rintro e w5 ⟨Y, rfl, hY, hf5⟩
  rw [← HXa.out]
  have hstY := a16_st Y
  have hsY : (bs Y.1).toArray.size = 16 := by simp
  obtain ⟨Ya, HYa⟩ := nm (bs Y.1).toArray
  rw [← HYa.out] at hstY hsY ⊢
  have HY := Lib.hid hY
  have HV5 := Lib.hid (HV4.out.fr hf5 (fun h => h))
  have HF5 := Lib.hid (HF4.out.trans hf5)
  clear hf5 hY
  obtain ⟨w6, HW6⟩ := nm (w5.alloc (.cells Ya 22))
  have HY6 := Lib.hid (show Blk w6 w5.heap.size 22 Ya from by rw [HW6.out]; exact Blk.new _ _ _)
  have HV6 := Lib.hid (show Blk w6 (w.heap.size + 2) 22 V from by rw [HW6.out]; exact HV5.out.alloc _)
  have HF6 := Lib.hid (show Fr0 w w6 from by rw [HW6.out]; exact HF5.out.alloc _)
  have hl6 : ldA (w5.alloc (.cells Ya 22)) (w.heap.size + 2) 0 16 = some V := (HV5.out.alloc _).all hsz
  go_wp2_with fail
  rw [← HW6.out, HV.out]
  refine (Advance_int p0 ka hp0 hk34 _ _ (by omega) (by omega) (by omega) v _).mono ?_
  rintro e w7 ⟨Z, rfl, hZ, hf7⟩
  have hYZ : Y.1 = Z.1 := by rw [HY.out, HX.out, hZ]; exact adv_comp _ _ _ _ _ (by omega) (by omega) (by omega) _
  have heq := run_by_same Y Z hYZ
  rw [← HV.out]
  have hstZ := a16_st Z
  have hsZ : (bs Z.1).toArray.size = 16 := by simp
  obtain ⟨Za, HZa⟩ := nm (bs Z.1).toArray
  rw [← HZa.out] at hstZ hsZ heq ⊢
  rw [← HYa.out] at heq
  have HY7 := Lib.hid (HY6.out.fr hf7 (fun h => h))
  have HF7 := Lib.hid (HF6.out.trans hf7)
  clear hf7 hl6 hZ hYZ
  obtain ⟨w8, HW8⟩ := nm (w7.alloc (.cells Za 22))
  have HZ8 := Lib.hid (show Blk w8 w7.heap.size 22 Za from by rw [HW8.out]; exact Blk.new _ _ _)
  have HY8 := Lib.hid (show Blk w8 w5.heap.size 22 Ya from by rw [HW8.out]; exact HY7.out.alloc _)
  have HF8 := Lib.hid (show Fr0 w w8 from by rw [HW8.out]; exact HF7.out.alloc _)
  go_wp2_with fail
  rw [← HW8.out]
  refine (known_any _).mono ?_
  rintro e w9 ⟨rfl, hf9⟩
  have lY := (HY8.out.fr hf9 (fun h => h)).all hsY
  have lZ := (HZ8.out.fr hf9 (fun h => h)).all hsZ
  have HF9 := Lib.hid (HF8.out.trans hf9)
  clear hf9
  go_wp2_with fail
  go_ret
  exact ⟨rfl, HF9.out⟩

set_option maxHeartbeats 1600000 in
theorem parts_9 (p0 p1 x y z : Nat) (h0 : p0 < 65536) (h1 : p1 < 65536) (hx : x < 256) (hy : y < 256) (hz : z < 256) (a b c : Nat) (ha : x % 16 = a) (hb : y % 16 = b) (hc : z % 16 = c) (q1 : b < a) (q2 : b < c) (q3 : a ≤ c ∧ c ≤ a) (v : By 16) (w : World) :
    Calls Try.prog 7 #[.agg #[.int .u16 (p0 : Int), .int .u16 (p1 : Int)], .agg #[.int .u8 (x : Int), .int .u8 (y : Int), .int .u8 (z : Int)], .agg (bs v.1).toArray] w fun e w' => e = .returned (.bool true) ∧ Fr0 w w' := by
  obtain ⟨q3a, q3b⟩ := q3
  have hsz : (bs v.1).toArray.size = 16 := by simp [v.2]
  obtain ⟨V, HV⟩ := nm (bs v.1).toArray
  rw [← HV.out] at hsz ⊢
  obtain ⟨w1, HW1⟩ := nm (((w.alloc (.cells #[.int .u16 (p0 : Int), .int .u16 (p1 : Int)] 46)).alloc (.cells #[.int .u8 (x : Int), .int .u8 (y : Int), .int .u8 (z : Int)] 47)).alloc (.cells V 22))
  obtain ⟨hb0, hb1, hb2, hf1⟩ := alloc3n _ _ _ _ _ _ _ _ HW1.out
  have c0 : w1.cell? ⟨w.heap.size, 0, none⟩ = some (.int .u16 (p0 : Int)) := hb0.cell 0
  have c1 : w1.cell? ⟨w.heap.size, 1, none⟩ = some (.int .u16 (p1 : Int)) := hb0.cell 1
  have c2 : w1.cell? ⟨w.heap.size + 1, 0, none⟩ = some (.int .u8 (x : Int)) := hb1.cell 0
  have c3 : w1.cell? ⟨w.heap.size + 1, 1, none⟩ = some (.int .u8 (y : Int)) := hb1.cell 1
  have c4 : w1.cell? ⟨w.heap.size + 1, 2, none⟩ = some (.int .u8 (z : Int)) := hb1.cell 2
  have HB2 := Lib.hid hb2
  have HF1 := Lib.hid hf1
  have ha' : (x : Int) % 16 = (a : Int) := by omega
  have hb' : (y : Int) % 16 = (b : Int) := by omega
  have hc' : (z : Int) % 16 = (c : Int) := by omega
  obtain ⟨ka, ha15⟩ : ∃ k : Nat, k = p1 % 35 := ⟨_, rfl⟩
  have hk : (p1 : Int) % 35 = (ka : Int) := by omega
  have hk34 : ka ≤ 34 := by omega
  have a15 : a ≤ 15 := by omega
  have b15 : b ≤ 15 := by omega
  have c15 : c ≤ 15 := by omega
  have hp0 : p0 ≤ 65535 := by omega
  clear hb0 hb1 hb2 hf1 ha hb hc ha15
  go_enter Try.func7, Try.ntmps7
  go_wp2_with fail
  rw [← HW1.out]
  go_quiet (fail)
  obtain ⟨nq0, hnq0⟩ : ∃ n, n = nq := ⟨_, rfl⟩
  rw [← hnq0]
  clear hnq0 nq
  go_wp2_with fail
  go_quiet (fail)
  clear c0 c1 c2 c3 c4
  obtain ⟨w2, HW2⟩ := nm ((w1.drewN nq0).drewN nq)
  have HV2 := Lib.hid (show Blk w2 (w.heap.size + 2) 22 V from by rw [HW2.out]; exact (HB2.out.drewN _).drewN _)
  have HF2 := Lib.hid (show Fr0 w w2 from by rw [HW2.out]; exact (HF1.out.drewN _).drewN _)
  have hl2 := HV2.out.all hsz
  rw [← HW2.out]
  go_wp2_with fail
  rw [HV.out]
  refine (Advance_int p0 ka hp0 hk34 _ _ (by omega) (by omega) (by omega) v _).mono ?_
  rintro e w3 ⟨X, rfl, hX, hf3⟩
  rw [← HV.out]
  have hstX := a16_st X
  have hsX : (bs X.1).toArray.size = 16 := by simp
  obtain ⟨Xa, HXa⟩ := nm (bs X.1).toArray
  rw [← HXa.out] at hstX hsX ⊢
  have HX := Lib.hid hX
  have HV3 := Lib.hid (HV2.out.fr hf3 (fun h => h))
  have HF3 := Lib.hid (HF2.out.trans hf3)
  clear hf3 hl2 hX
  obtain ⟨w4, HW4⟩ := nm (w3.alloc (.cells Xa 22))
  have HX4 := Lib.hid (show Blk w4 w3.heap.size 22 Xa from by rw [HW4.out]; exact Blk.new _ _ _)
  have HV4 := Lib.hid (show Blk w4 (w.heap.size + 2) 22 V from by rw [HW4.out]; exact HV3.out.alloc _)
  have HF4 := Lib.hid (show Fr0 w w4 from by rw [HW4.out]; exact HF3.out.alloc _)
  go_wp2_with fail
  rw [← HW4.out, HXa.out]
  refine (Advance_int p0 ka hp0 hk34 _ _ (by omega) (by omega) (by omega) X _).mono ?_
  rintro e w5 ⟨Y, rfl, hY, hf5⟩
  rw [← HXa.out]
  have hstY := a16_st Y
  have hsY : (bs Y.1).toArray.size = 16 := by simp
  obtain ⟨Ya, HYa⟩ := nm (bs Y.1).toArray
  rw [← HYa.out] at hstY hsY ⊢
  have HY := Lib.hid hY
  have HV5 := Lib.hid (HV4.out.fr hf5 (fun h => h))
  have HF5 := Lib.hid (HF4.out.trans hf5)
  clear hf5 hY
  obtain ⟨w6, HW6⟩ := nm (w5.alloc (.cells Ya 22))
  have HY6 := Lib.hid (show Blk w6 w5.heap.size 22 Ya from by rw [HW6.out]; exact Blk.new _ _ _)
  have HV6 := Lib.hid (show Blk w6 (w.heap.size + 2) 22 V from by rw [HW6.out]; exact HV5.out.alloc _)
  have HF6 := Lib.hid (show Fr0 w w6 from by rw [HW6.out]; exact HF5.out.alloc _)
  have hl6 : ldA (w5.alloc (.cells Ya 22)) (w.heap.size + 2) 0 16 = some V := (HV5.out.alloc _).all hsz
  go_wp2_with fail
  rw [← HW6.out, HV.out]
  refine (Advance_int p0 ka hp0 hk34 _ _ (by omega) (by omega) (by omega) v _).mono ?_
  rintro e w7 ⟨Z, rfl, hZ, hf7⟩
  have hYZ : Y.1 = Z.1 := by rw [HY.out, HX.out, hZ]; exact adv_comp _ _ _ _ _ (by omega) (by omega) (by omega) _
  have heq := run_by_same Y Z hYZ
  rw [← HV.out]
  have hstZ := a16_st Z
  have hsZ : (bs Z.1).toArray.size = 16 := by simp
  obtain ⟨Za, HZa⟩ := nm (bs Z.1).toArray
  rw [← HZa.out] at hstZ hsZ heq ⊢
  rw [← HYa.out] at heq
  have HY7 := Lib.hid (HY6.out.fr hf7 (fun h => h))
  have HF7 := Lib.hid (HF6.out.trans hf7)
  clear hf7 hl6 hZ hYZ
  obtain ⟨w8, HW8⟩ := nm (w7.alloc (.cells Za 22))
  have HZ8 := Lib.hid (show Blk w8 w7.heap.size 22 Za from by rw [HW8.out]; exact Blk.new _ _ _)
  have HY8 := Lib.hid (show Blk w8 w5.heap.size 22 Ya from by rw [HW8.out]; exact HY7.out.alloc _)
  have HF8 := Lib.hid (show Fr0 w w8 from by rw [HW8.out]; exact HF7.out.alloc _)
  go_wp2_with fail
  rw [← HW8.out]
  refine (known_any _).mono ?_
  rintro e w9 ⟨rfl, hf9⟩
  have lY := (HY8.out.fr hf9 (fun h => h)).all hsY
  have lZ := (HZ8.out.fr hf9 (fun h => h)).all hsZ
  have HF9 := Lib.hid (HF8.out.trans hf9)
  clear hf9
  go_wp2_with fail
  go_ret
  exact ⟨rfl, HF9.out⟩

set_option maxHeartbeats 1600000 in
theorem parts_10 (p0 p1 x y z : Nat) (h0 : p0 < 65536) (h1 : p1 < 65536) (hx : x < 256) (hy : y < 256) (hz : z < 256) (a b c : Nat) (ha : x % 16 = a) (hb : y % 16 = b) (hc : z % 16 = c) (q1 : b < a) (q2 : b < c) (q3 : c < a) (v : By 16) (w : World) :
    Calls Try.prog 7 #[.agg #[.int .u16 (p0 : Int), .int .u16 (p1 : Int)], .agg #[.int .u8 (x : Int), .int .u8 (y : Int), .int .u8 (z : Int)], .agg (bs v.1).toArray] w fun e w' => e = .returned (.bool true) ∧ Fr0 w w' := by
  have hsz : (bs v.1).toArray.size = 16 := by simp [v.2]
  obtain ⟨V, HV⟩ := nm (bs v.1).toArray
  rw [← HV.out] at hsz ⊢
  obtain ⟨w1, HW1⟩ := nm (((w.alloc (.cells #[.int .u16 (p0 : Int), .int .u16 (p1 : Int)] 46)).alloc (.cells #[.int .u8 (x : Int), .int .u8 (y : Int), .int .u8 (z : Int)] 47)).alloc (.cells V 22))
  obtain ⟨hb0, hb1, hb2, hf1⟩ := alloc3n _ _ _ _ _ _ _ _ HW1.out
  have c0 : w1.cell? ⟨w.heap.size, 0, none⟩ = some (.int .u16 (p0 : Int)) := hb0.cell 0
  have c1 : w1.cell? ⟨w.heap.size, 1, none⟩ = some (.int .u16 (p1 : Int)) := hb0.cell 1
  have c2 : w1.cell? ⟨w.heap.size + 1, 0, none⟩ = some (.int .u8 (x : Int)) := hb1.cell 0
  have c3 : w1.cell? ⟨w.heap.size + 1, 1, none⟩ = some (.int .u8 (y : Int)) := hb1.cell 1
  have c4 : w1.cell? ⟨w.heap.size + 1, 2, none⟩ = some (.int .u8 (z : Int)) := hb1.cell 2
  have HB2 := Lib.hid hb2
  have HF1 := Lib.hid hf1
  have ha' : (x : Int) % 16 = (a : Int) := by omega
  have hb' : (y : Int) % 16 = (b : Int) := by omega
  have hc' : (z : Int) % 16 = (c : Int) := by omega
  obtain ⟨ka, ha15⟩ : ∃ k : Nat, k = p1 % 35 := ⟨_, rfl⟩
  have hk : (p1 : Int) % 35 = (ka : Int) := by omega
  have hk34 : ka ≤ 34 := by omega
  have a15 : a ≤ 15 := by omega
  have b15 : b ≤ 15 := by omega
  have c15 : c ≤ 15 := by omega
  have hp0 : p0 ≤ 65535 := by omega
  clear hb0 hb1 hb2 hf1 ha hb hc ha15
  go_enter Try.func7, Try.ntmps7
  go_wp2_with fail
  rw [← HW1.out]
  go_quiet (fail)
  obtain ⟨nq0, hnq0⟩ : ∃ n, n = nq := ⟨_, rfl⟩
  rw [← hnq0]
  clear hnq0 nq
  go_wp2_with fail
  go_quiet (fail)
  clear c0 c1 c2 c3 c4
  obtain ⟨w2, HW2⟩ := nm ((w1.drewN nq0).drewN nq)
  have HV2 := Lib.hid (show Blk w2 (w.heap.size + 2) 22 V from by rw [HW2.out]; exact (HB2.out.drewN _).drewN _)
  have HF2 := Lib.hid (show Fr0 w w2 from by rw [HW2.out]; exact (HF1.out.drewN _).drewN _)
  have hl2 := HV2.out.all hsz
  rw [← HW2.out]
  go_wp2_with fail
  rw [HV.out]
  refine (Advance_int p0 ka hp0 hk34 _ _ (by omega) (by omega) (by omega) v _).mono ?_
  rintro e w3 ⟨X, rfl, hX, hf3⟩
  rw [← HV.out]
  have hstX := a16_st X
  have hsX : (bs X.1).toArray.size = 16 := by simp
  obtain ⟨Xa, HXa⟩ := nm (bs X.1).toArray
  rw [← HXa.out] at hstX hsX ⊢
  have HX := Lib.hid hX
  have HV3 := Lib.hid (HV2.out.fr hf3 (fun h => h))
  have HF3 := Lib.hid (HF2.out.trans hf3)
  clear hf3 hl2 hX
  obtain ⟨w4, HW4⟩ := nm (w3.alloc (.cells Xa 22))
  have HX4 := Lib.hid (show Blk w4 w3.heap.size 22 Xa from by rw [HW4.out]; exact Blk.new _ _ _)
  have HV4 := Lib.hid (show Blk w4 (w.heap.size + 2) 22 V from by rw [HW4.out]; exact HV3.out.alloc _)
  have HF4 := Lib.hid (show Fr0 w w4 from by rw [HW4.out]; exact HF3.out.alloc _)
  go_wp2_with fail
  rw [← HW4.out, HXa.out]
  refine (Advance_int p0 ka hp0 hk34 _ _ (by omega) (by omega) (by omega) X _).mono ?_
  rintro e w5 ⟨Y, rfl, hY, hf5⟩
  rw [← HXa.out]
  have hstY := a16_st Y
  have hsY : (bs Y.1).toArray.size = 16 := by simp
  obtain ⟨Ya, HYa⟩ := nm (bs Y.1).toArray
  rw [← HYa.out] at hstY hsY ⊢
  have HY := Lib.hid hY
  have HV5 := Lib.hid (HV4.out.fr hf5 (fun h => h))
  have HF5 := Lib.hid (HF4.out.trans hf5)
  clear hf5 hY
  obtain ⟨w6, HW6⟩ := nm (w5.alloc (.cells Ya 22))
  have HY6 := Lib.hid (show Blk w6 w5.heap.size 22 Ya from by rw [HW6.out]; exact Blk.new _ _ _)
  have HV6 := Lib.hid (show Blk w6 (w.heap.size + 2) 22 V from by rw [HW6.out]; exact HV5.out.alloc _)
  have HF6 := Lib.hid (show Fr0 w w6 from by rw [HW6.out]; exact HF5.out.alloc _)
  have hl6 : ldA (w5.alloc (.cells Ya 22)) (w.heap.size + 2) 0 16 = some V := (HV5.out.alloc _).all hsz
  go_wp2_with fail
  rw [← HW6.out, HV.out]
  refine (Advance_int p0 ka hp0 hk34 _ _ (by omega) (by omega) (by omega) v _).mono ?_
  rintro e w7 ⟨Z, rfl, hZ, hf7⟩
  have hYZ : Y.1 = Z.1 := by rw [HY.out, HX.out, hZ]; exact adv_comp _ _ _ _ _ (by omega) (by omega) (by omega) _
  have heq := run_by_same Y Z hYZ
  rw [← HV.out]
  have hstZ := a16_st Z
  have hsZ : (bs Z.1).toArray.size = 16 := by simp
  obtain ⟨Za, HZa⟩ := nm (bs Z.1).toArray
  rw [← HZa.out] at hstZ hsZ heq ⊢
  rw [← HYa.out] at heq
  have HY7 := Lib.hid (HY6.out.fr hf7 (fun h => h))
  have HF7 := Lib.hid (HF6.out.trans hf7)
  clear hf7 hl6 hZ hYZ
  obtain ⟨w8, HW8⟩ := nm (w7.alloc (.cells Za 22))
  have HZ8 := Lib.hid (show Blk w8 w7.heap.size 22 Za from by rw [HW8.out]; exact Blk.new _ _ _)
  have HY8 := Lib.hid (show Blk w8 w5.heap.size 22 Ya from by rw [HW8.out]; exact HY7.out.alloc _)
  have HF8 := Lib.hid (show Fr0 w w8 from by rw [HW8.out]; exact HF7.out.alloc _)
  go_wp2_with fail
  rw [← HW8.out]
  refine (known_any _).mono ?_
  rintro e w9 ⟨rfl, hf9⟩
  have lY := (HY8.out.fr hf9 (fun h => h)).all hsY
  have lZ := (HZ8.out.fr hf9 (fun h => h)).all hsZ
  have HF9 := Lib.hid (HF8.out.trans hf9)
  clear hf9
  go_wp2_with fail
  go_ret
  exact ⟨rfl, HF9.out⟩

set_option maxHeartbeats 1600000 in
theorem parts_11 (p0 p1 x y z : Nat) (h0 : p0 < 65536) (h1 : p1 < 65536) (hx : x < 256) (hy : y < 256) (hz : z < 256) (a b c : Nat) (ha : x % 16 = a) (hb : y % 16 = b) (hc : z % 16 = c) (q1 : b < a) (q2 : b ≤ c ∧ c ≤ b) (q3 : c < a) (v : By 16) (w : World) :
    Calls Try.prog 7 #[.agg #[.int .u16 (p0 : Int), .int .u16 (p1 : Int)], .agg #[.int .u8 (x : Int), .int .u8 (y : Int), .int .u8 (z : Int)], .agg (bs v.1).toArray] w fun e w' => e = .returned (.bool true) ∧ Fr0 w w' := by
  obtain ⟨q2a, q2b⟩ := q2
  have hsz : (bs v.1).toArray.size = 16 := by simp [v.2]
  obtain ⟨V, HV⟩ := nm (bs v.1).toArray
  rw [← HV.out] at hsz ⊢
  obtain ⟨w1, HW1⟩ := nm (((w.alloc (.cells #[.int .u16 (p0 : Int), .int .u16 (p1 : Int)] 46)).alloc (.cells #[.int .u8 (x : Int), .int .u8 (y : Int), .int .u8 (z : Int)] 47)).alloc (.cells V 22))
  obtain ⟨hb0, hb1, hb2, hf1⟩ := alloc3n _ _ _ _ _ _ _ _ HW1.out
  have c0 : w1.cell? ⟨w.heap.size, 0, none⟩ = some (.int .u16 (p0 : Int)) := hb0.cell 0
  have c1 : w1.cell? ⟨w.heap.size, 1, none⟩ = some (.int .u16 (p1 : Int)) := hb0.cell 1
  have c2 : w1.cell? ⟨w.heap.size + 1, 0, none⟩ = some (.int .u8 (x : Int)) := hb1.cell 0
  have c3 : w1.cell? ⟨w.heap.size + 1, 1, none⟩ = some (.int .u8 (y : Int)) := hb1.cell 1
  have c4 : w1.cell? ⟨w.heap.size + 1, 2, none⟩ = some (.int .u8 (z : Int)) := hb1.cell 2
  have HB2 := Lib.hid hb2
  have HF1 := Lib.hid hf1
  have ha' : (x : Int) % 16 = (a : Int) := by omega
  have hb' : (y : Int) % 16 = (b : Int) := by omega
  have hc' : (z : Int) % 16 = (c : Int) := by omega
  obtain ⟨ka, ha15⟩ : ∃ k : Nat, k = p1 % 35 := ⟨_, rfl⟩
  have hk : (p1 : Int) % 35 = (ka : Int) := by omega
  have hk34 : ka ≤ 34 := by omega
  have a15 : a ≤ 15 := by omega
  have b15 : b ≤ 15 := by omega
  have c15 : c ≤ 15 := by omega
  have hp0 : p0 ≤ 65535 := by omega
  clear hb0 hb1 hb2 hf1 ha hb hc ha15
  go_enter Try.func7, Try.ntmps7
  go_wp2_with fail
  rw [← HW1.out]
  go_quiet (fail)
  obtain ⟨nq0, hnq0⟩ : ∃ n, n = nq := ⟨_, rfl⟩
  rw [← hnq0]
  clear hnq0 nq
  go_wp2_with fail
  go_quiet (fail)
  clear c0 c1 c2 c3 c4
  obtain ⟨w2, HW2⟩ := nm ((w1.drewN nq0).drewN nq)
  have HV2 := Lib.hid (show Blk w2 (w.heap.size + 2) 22 V from by rw [HW2.out]; exact (HB2.out.drewN _).drewN _)
  have HF2 := Lib.hid (show Fr0 w w2 from by rw [HW2.out]; exact (HF1.out.drewN _).drewN _)
  have hl2 := HV2.out.all hsz
  rw [← HW2.out]
  go_wp2_with fail
  rw [HV.out]
  refine (Advance_int p0 ka hp0 hk34 _ _ (by omega) (by omega) (by omega) v _).mono ?_
  rintro e w3 ⟨X, rfl, hX, hf3⟩
  rw [← HV.out]
  have hstX := a16_st X
  have hsX : (bs X.1).toArray.size = 16 := by simp
  obtain ⟨Xa, HXa⟩ := nm (bs X.1).toArray
  rw [← HXa.out] at hstX hsX ⊢
  have HX := Lib.hid hX
  have HV3 := Lib.hid (HV2.out.fr hf3 (fun h => h))
  have HF3 := Lib.hid (HF2.out.trans hf3)
  clear hf3 hl2 hX
  obtain ⟨w4, HW4⟩ := nm (w3.alloc (.cells Xa 22))
  have HX4 := Lib.hid (show Blk w4 w3.heap.size 22 Xa from by rw [HW4.out]; exact Blk.new _ _ _)
  have HV4 := Lib.hid (show Blk w4 (w.heap.size + 2) 22 V from by rw [HW4.out]; exact HV3.out.alloc _)
  have HF4 := Lib.hid (show Fr0 w w4 from by rw [HW4.out]; exact HF3.out.alloc _)
  go_wp2_with fail
  rw [← HW4.out, HXa.out]
  refine (Advance_int p0 ka hp0 hk34 _ _ (by omega) (by omega) (by omega) X _).mono ?_
  rintro e w5 ⟨Y, rfl, hY, hf5⟩
  rw [← HXa.out]
  have hstY := a16_st Y
  have hsY : (bs Y.1).toArray.size = 16 := by simp
  obtain ⟨Ya, HYa⟩ := nm (bs Y.1).toArray
  rw [← HYa.out] at hstY hsY ⊢
  have HY := Lib.hid hY
  have HV5 := Lib.hid (HV4.out.fr hf5 (fun h => h))
  have HF5 := Lib.hid (HF4.out.trans hf5)
  clear hf5 hY
  obtain ⟨w6, HW6⟩ := nm (w5.alloc (.cells Ya 22))
  have HY6 := Lib.hid (show Blk w6 w5.heap.size 22 Ya from by rw [HW6.out]; exact Blk.new _ _ _)
  have HV6 := Lib.hid (show Blk w6 (w.heap.size + 2) 22 V from by rw [HW6.out]; exact HV5.out.alloc _)
  have HF6 := Lib.hid (show Fr0 w w6 from by rw [HW6.out]; exact HF5.out.alloc _)
  have hl6 : ldA (w5.alloc (.cells Ya 22)) (w.heap.size + 2) 0 16 = some V := (HV5.out.alloc _).all hsz
  go_wp2_with fail
  rw [← HW6.out, HV.out]
  refine (Advance_int p0 ka hp0 hk34 _ _ (by omega) (by omega) (by omega) v _).mono ?_
  rintro e w7 ⟨Z, rfl, hZ, hf7⟩
  have hYZ : Y.1 = Z.1 := by rw [HY.out, HX.out, hZ]; exact adv_comp _ _ _ _ _ (by omega) (by omega) (by omega) _
  have heq := run_by_same Y Z hYZ
  rw [← HV.out]
  have hstZ := a16_st Z
  have hsZ : (bs Z.1).toArray.size = 16 := by simp
  obtain ⟨Za, HZa⟩ := nm (bs Z.1).toArray
  rw [← HZa.out] at hstZ hsZ heq ⊢
  rw [← HYa.out] at heq
  have HY7 := Lib.hid (HY6.out.fr hf7 (fun h => h))
  have HF7 := Lib.hid (HF6.out.trans hf7)
  clear hf7 hl6 hZ hYZ
  obtain ⟨w8, HW8⟩ := nm (w7.alloc (.cells Za 22))
  have HZ8 := Lib.hid (show Blk w8 w7.heap.size 22 Za from by rw [HW8.out]; exact Blk.new _ _ _)
  have HY8 := Lib.hid (show Blk w8 w5.heap.size 22 Ya from by rw [HW8.out]; exact HY7.out.alloc _)
  have HF8 := Lib.hid (show Fr0 w w8 from by rw [HW8.out]; exact HF7.out.alloc _)
  go_wp2_with fail
  rw [← HW8.out]
  refine (known_any _).mono ?_
  rintro e w9 ⟨rfl, hf9⟩
  have lY := (HY8.out.fr hf9 (fun h => h)).all hsY
  have lZ := (HZ8.out.fr hf9 (fun h => h)).all hsZ
  have HF9 := Lib.hid (HF8.out.trans hf9)
  clear hf9
  go_wp2_with fail
  go_ret
  exact ⟨rfl, HF9.out⟩

set_option maxHeartbeats 1600000 in
theorem parts_12 (p0 p1 x y z : Nat) (h0 : p0 < 65536) (h1 : p1 < 65536) (hx : x < 256) (hy : y < 256) (hz : z < 256) (a b c : Nat) (ha : x % 16 = a) (hb : y % 16 = b) (hc : z % 16 = c) (q1 : b < a) (q2 : c < b) (q3 : c < a) (v : By 16) (w : World) :
    Calls Try.prog 7 #[.agg #[.int .u16 (p0 : Int), .int .u16 (p1 : Int)], .agg #[.int .u8 (x : Int), .int .u8 (y : Int), .int .u8 (z : Int)], .agg (bs v.1).toArray] w fun e w' => e = .returned (.bool true) ∧ Fr0 w w' := by
  have hsz : (bs v.1).toArray.size = 16 := by simp [v.2]
  obtain ⟨V, HV⟩ := nm (bs v.1).toArray
  rw [← HV.out] at hsz ⊢
  obtain ⟨w1, HW1⟩ := nm (((w.alloc (.cells #[.int .u16 (p0 : Int), .int .u16 (p1 : Int)] 46)).alloc (.cells #[.int .u8 (x : Int), .int .u8 (y : Int), .int .u8 (z : Int)] 47)).alloc (.cells V 22))
  obtain ⟨hb0, hb1, hb2, hf1⟩ := alloc3n _ _ _ _ _ _ _ _ HW1.out
  have c0 : w1.cell? ⟨w.heap.size, 0, none⟩ = some (.int .u16 (p0 : Int)) := hb0.cell 0
  have c1 : w1.cell? ⟨w.heap.size, 1, none⟩ = some (.int .u16 (p1 : Int)) := hb0.cell 1
  have c2 : w1.cell? ⟨w.heap.size + 1, 0, none⟩ = some (.int .u8 (x : Int)) := hb1.cell 0
  have c3 : w1.cell? ⟨w.heap.size + 1, 1, none⟩ = some (.int .u8 (y : Int)) := hb1.cell 1
  have c4 : w1.cell? ⟨w.heap.size + 1, 2, none⟩ = some (.int .u8 (z : Int)) := hb1.cell 2
  have HB2 := Lib.hid hb2
  have HF1 := Lib.hid hf1
  have ha' : (x : Int) % 16 = (a : Int) := by omega
  have hb' : (y : Int) % 16 = (b : Int) := by omega
  have hc' : (z : Int) % 16 = (c : Int) := by omega
  obtain ⟨ka, ha15⟩ : ∃ k : Nat, k = p1 % 35 := ⟨_, rfl⟩
  have hk : (p1 : Int) % 35 = (ka : Int) := by omega
  have hk34 : ka ≤ 34 := by omega
  have a15 : a ≤ 15 := by omega
  have b15 : b ≤ 15 := by omega
  have c15 : c ≤ 15 := by omega
  have hp0 : p0 ≤ 65535 := by omega
  clear hb0 hb1 hb2 hf1 ha hb hc ha15
  go_enter Try.func7, Try.ntmps7
  go_wp2_with fail
  rw [← HW1.out]
  go_quiet (fail)
  obtain ⟨nq0, hnq0⟩ : ∃ n, n = nq := ⟨_, rfl⟩
  rw [← hnq0]
  clear hnq0 nq
  go_wp2_with fail
  go_quiet (fail)
  clear c0 c1 c2 c3 c4
  obtain ⟨w2, HW2⟩ := nm ((w1.drewN nq0).drewN nq)
  have HV2 := Lib.hid (show Blk w2 (w.heap.size + 2) 22 V from by rw [HW2.out]; exact (HB2.out.drewN _).drewN _)
  have HF2 := Lib.hid (show Fr0 w w2 from by rw [HW2.out]; exact (HF1.out.drewN _).drewN _)
  have hl2 := HV2.out.all hsz
  rw [← HW2.out]
  go_wp2_with fail
  rw [HV.out]
  refine (Advance_int p0 ka hp0 hk34 _ _ (by omega) (by omega) (by omega) v _).mono ?_
  rintro e w3 ⟨X, rfl, hX, hf3⟩
  rw [← HV.out]
  have hstX := a16_st X
  have hsX : (bs X.1).toArray.size = 16 := by simp
  obtain ⟨Xa, HXa⟩ := nm (bs X.1).toArray
  rw [← HXa.out] at hstX hsX ⊢
  have HX := Lib.hid hX
  have HV3 := Lib.hid (HV2.out.fr hf3 (fun h => h))
  have HF3 := Lib.hid (HF2.out.trans hf3)
  clear hf3 hl2 hX
  obtain ⟨w4, HW4⟩ := nm (w3.alloc (.cells Xa 22))
  have HX4 := Lib.hid (show Blk w4 w3.heap.size 22 Xa from by rw [HW4.out]; exact Blk.new _ _ _)
  have HV4 := Lib.hid (show Blk w4 (w.heap.size + 2) 22 V from by rw [HW4.out]; exact HV3.out.alloc _)
  have HF4 := Lib.hid (show Fr0 w w4 from by rw [HW4.out]; exact HF3.out.alloc _)
  go_wp2_with fail
  rw [← HW4.out, HXa.out]
  refine (Advance_int p0 ka hp0 hk34 _ _ (by omega) (by omega) (by omega) X _).mono ?_
  rintro e w5 ⟨Y, rfl, hY, hf5⟩
  rw [← HXa.out]
  have hstY := a16_st Y
  have hsY : (bs Y.1).toArray.size = 16 := by simp
  obtain ⟨Ya, HYa⟩ := nm (bs Y.1).toArray
  rw [← HYa.out] at hstY hsY ⊢
  have HY := Lib.hid hY
  have HV5 := Lib.hid (HV4.out.fr hf5 (fun h => h))
  have HF5 := Lib.hid (HF4.out.trans hf5)
  clear hf5 hY
  obtain ⟨w6, HW6⟩ := nm (w5.alloc (.cells Ya 22))
  have HY6 := Lib.hid (show Blk w6 w5.heap.size 22 Ya from by rw [HW6.out]; exact Blk.new _ _ _)
  have HV6 := Lib.hid (show Blk w6 (w.heap.size + 2) 22 V from by rw [HW6.out]; exact HV5.out.alloc _)
  have HF6 := Lib.hid (show Fr0 w w6 from by rw [HW6.out]; exact HF5.out.alloc _)
  have hl6 : ldA (w5.alloc (.cells Ya 22)) (w.heap.size + 2) 0 16 = some V := (HV5.out.alloc _).all hsz
  go_wp2_with fail
  rw [← HW6.out, HV.out]
  refine (Advance_int p0 ka hp0 hk34 _ _ (by omega) (by omega) (by omega) v _).mono ?_
  rintro e w7 ⟨Z, rfl, hZ, hf7⟩
  have hYZ : Y.1 = Z.1 := by rw [HY.out, HX.out, hZ]; exact adv_comp _ _ _ _ _ (by omega) (by omega) (by omega) _
  have heq := run_by_same Y Z hYZ
  rw [← HV.out]
  have hstZ := a16_st Z
  have hsZ : (bs Z.1).toArray.size = 16 := by simp
  obtain ⟨Za, HZa⟩ := nm (bs Z.1).toArray
  rw [← HZa.out] at hstZ hsZ heq ⊢
  rw [← HYa.out] at heq
  have HY7 := Lib.hid (HY6.out.fr hf7 (fun h => h))
  have HF7 := Lib.hid (HF6.out.trans hf7)
  clear hf7 hl6 hZ hYZ
  obtain ⟨w8, HW8⟩ := nm (w7.alloc (.cells Za 22))
  have HZ8 := Lib.hid (show Blk w8 w7.heap.size 22 Za from by rw [HW8.out]; exact Blk.new _ _ _)
  have HY8 := Lib.hid (show Blk w8 w5.heap.size 22 Ya from by rw [HW8.out]; exact HY7.out.alloc _)
  have HF8 := Lib.hid (show Fr0 w w8 from by rw [HW8.out]; exact HF7.out.alloc _)
  go_wp2_with fail
  rw [← HW8.out]
  refine (known_any _).mono ?_
  rintro e w9 ⟨rfl, hf9⟩
  have lY := (HY8.out.fr hf9 (fun h => h)).all hsY
  have lZ := (HZ8.out.fr hf9 (fun h => h)).all hsZ
  have HF9 := Lib.hid (HF8.out.trans hf9)
  clear hf9
  go_wp2_with fail
  go_ret
  exact ⟨rfl, HF9.out⟩

theorem parts_walk (p0 p1 x y z : Nat) (h0 : p0 < 65536) (h1 : p1 < 65536) (hx : x < 256) (hy : y < 256) (hz : z < 256) (v : By 16) (w : World) :
    Calls Try.prog 7 #[.agg #[.int .u16 (p0 : Int), .int .u16 (p1 : Int)], .agg #[.int .u8 (x : Int), .int .u8 (y : Int), .int .u8 (z : Int)], .agg (bs v.1).toArray] w fun e w' => e = .returned (.bool true) ∧ Below w.heap.size w w' := by
  have key : Calls Try.prog 7 #[.agg #[.int .u16 (p0 : Int), .int .u16 (p1 : Int)], .agg #[.int .u8 (x : Int), .int .u8 (y : Int), .int .u8 (z : Int)], .agg (bs v.1).toArray] w fun e w' => e = .returned (.bool true) ∧ Fr0 w w' := by
    rcases Nat.lt_trichotomy (x % 16) (y % 16) with q1 | q1 | q1 <;> rcases Nat.lt_trichotomy (y % 16) (z % 16) with q2 | q2 | q2 <;> rcases Nat.lt_trichotomy (x % 16) (z % 16) with q3 | q3 | q3 <;> first
      | (exfalso; omega)
      | exact parts_0 p0 p1 x y z h0 h1 hx hy hz _ _ _ rfl rfl rfl (by omega) (by omega) (by omega) v w
      | exact parts_1 p0 p1 x y z h0 h1 hx hy hz _ _ _ rfl rfl rfl (by omega) (by omega) (by omega) v w
      | exact parts_2 p0 p1 x y z h0 h1 hx hy hz _ _ _ rfl rfl rfl (by omega) (by omega) (by omega) v w
      | exact parts_3 p0 p1 x y z h0 h1 hx hy hz _ _ _ rfl rfl rfl (by omega) (by omega) (by omega) v w
      | exact parts_4 p0 p1 x y z h0 h1 hx hy hz _ _ _ rfl rfl rfl (by omega) (by omega) (by omega) v w
      | exact parts_5 p0 p1 x y z h0 h1 hx hy hz _ _ _ rfl rfl rfl (by omega) (by omega) (by omega) v w
      | exact parts_6 p0 p1 x y z h0 h1 hx hy hz _ _ _ rfl rfl rfl (by omega) (by omega) (by omega) v w
      | exact parts_7 p0 p1 x y z h0 h1 hx hy hz _ _ _ rfl rfl rfl (by omega) (by omega) (by omega) v w
      | exact parts_8 p0 p1 x y z h0 h1 hx hy hz _ _ _ rfl rfl rfl (by omega) (by omega) (by omega) v w
      | exact parts_9 p0 p1 x y z h0 h1 hx hy hz _ _ _ rfl rfl rfl (by omega) (by omega) (by omega) v w
      | exact parts_10 p0 p1 x y z h0 h1 hx hy hz _ _ _ rfl rfl rfl (by omega) (by omega) (by omega) v w
      | exact parts_11 p0 p1 x y z h0 h1 hx hy hz _ _ _ rfl rfl rfl (by omega) (by omega) (by omega) v w
      | exact parts_12 p0 p1 x y z h0 h1 hx hy hz _ _ _ rfl rfl rfl (by omega) (by omega) (by omega) v w
  exact key.mono fun e w' ⟨he, hf⟩ => ⟨he, Fr0.below hf⟩
end Go.Proofs.Ytjdbfedkadoklaa
