/- One-time signatures: one step, the first value of a chain. No condition beyond the ranges that are named. -/
import Derived.Test.YtjdbfedkadoklaaOtA
namespace Go.Proofs.Ytjdbfedkadoklaa
set_option linter.unusedVariables false
set_option linter.unusedSimpArgs false
set_option maxRecDepth 10000
open Go.RowKit
attribute [local go_sem ↓] Go.wp_at_zero Go.wp_at_succ

@[go_sem ↓] theorem ex_bsl_lls (ρ : Operand → Value) (dst : Option Tmp) (n : Nat) (ps : Array (Nat × Operand)) (ty : TypeId) (pos : String) (aft : Array Edge) (gd : Option (Nat × Bool)) :
    execOp ρ ⟨dst, .buildSlice 83 n ps, ty, pos, aft, gd⟩ = (do pure (.value (← bsl 83 n (ps.map fun (i, x) => (i, ρ x))))) := rfl
@[go_sem] theorem run_sl_lls_1 (w : World) (A : Option Addr) (n c : Nat) : (bsl 83 1 #[(0, .slice A n c)]).run Try.prog w = .ok (.slice (some ⟨w.heap.size, 0, none⟩) 1 1) (w.alloc (.cells #[.slice A n c] 73)) := by kernel_rfl
@[go_sem] theorem run_sl_lls_2 (w : World) (A B : Option Addr) (n c m d : Nat) : (bsl 83 2 #[(0, .slice A n c), (1, .slice B m d)]).run Try.prog w = .ok (.slice (some ⟨w.heap.size, 0, none⟩) 2 2) (w.alloc (.cells #[.slice A n c, .slice B m d] 73)) := by kernel_rfl
theorem run_sl_n1 (w : World) (a : Nat) : (bsl 73 1 #[(0, .int .u8 ((a : Int) % 256))]).run Try.prog w = .ok (.slice (some ⟨w.heap.size, 0, none⟩) 1 1) (w.alloc (.cells (bs [UInt8.ofNat a]).toArray 5)) := by
  have e : Value.int .u8 ((a : Int) % 256) = Proofs.Ytjdbfedkadoklaa.u8 (UInt8.ofNat a) := by
    unfold Proofs.Ytjdbfedkadoklaa.u8; rw [UInt8.toNat_ofNat']; congr 1
  rw [e]; exact run_sl_u8_1 w _
theorem run_sl_u8_two (w : World) (x y : UInt8) : (bsl 73 2 #[(0, Proofs.Ytjdbfedkadoklaa.u8 x), (1, Proofs.Ytjdbfedkadoklaa.u8 y)]).run Try.prog w = .ok (.slice (some ⟨w.heap.size, 0, none⟩) 2 2) (w.alloc (.cells #[Proofs.Ytjdbfedkadoklaa.u8 x, Proofs.Ytjdbfedkadoklaa.u8 y] 5)) := by kernel_rfl
theorem run_sl_n2 (w : World) (a b : Nat) : (bsl 73 2 #[(0, .int .u8 ((a : Int) % 256)), (1, .int .u8 ((b : Int) % 256))]).run Try.prog w = .ok (.slice (some ⟨w.heap.size, 0, none⟩) 2 2) (w.alloc (.cells (bs [UInt8.ofNat a, UInt8.ofNat b]).toArray 5)) := by
  have e : ∀ a : Nat, Value.int .u8 ((a : Int) % 256) = Proofs.Ytjdbfedkadoklaa.u8 (UInt8.ofNat a) := fun a => by
    unfold Proofs.Ytjdbfedkadoklaa.u8; rw [UInt8.toNat_ofNat']; congr 1
  rw [e, e]; exact run_sl_u8_two w _ _
abbrev z16 : Array Value := #[Value.int IntKind.u8 0, Value.int IntKind.u8 0, Value.int IntKind.u8 0, Value.int IntKind.u8 0, Value.int IntKind.u8 0, Value.int IntKind.u8 0, Value.int IntKind.u8 0, Value.int IntKind.u8 0, Value.int IntKind.u8 0, Value.int IntKind.u8 0, Value.int IntKind.u8 0, Value.int IntKind.u8 0, Value.int IntKind.u8 0, Value.int IntKind.u8 0, Value.int IntKind.u8 0, Value.int IntKind.u8 0]
theorem alloc4 (w : World) (t0 t1 t2 t3 : TypeId) (c0 c1 c2 c3 : Array Value) (w4 : World) (h : w4 = (((w.alloc (.cells c0 t0)).alloc (.cells c1 t1)).alloc (.cells c2 t2)).alloc (.cells c3 t3)) :
    Blk w4 w.heap.size t0 c0 ∧ Blk w4 (w.heap.size + 1) t1 c1 ∧ Blk w4 (w.heap.size + 2) t2 c2 ∧ Blk w4 (w.heap.size + 3) t3 c3 ∧ Fr0 w w4 ∧ w4.heap.size = w.heap.size + 4 := by
  subst h
  refine ⟨(((Blk.new _ _ _).alloc _).alloc _).alloc _, ?_, ?_, ?_, ((((Fr.refl _ w).alloc _).alloc _).alloc _).alloc _, by simp⟩
  · have h := Blk.new (w.alloc (.cells c0 t0)) t1 c1
    rw [show (w.alloc (.cells c0 t0)).heap.size = w.heap.size + 1 by simp] at h
    exact (h.alloc _).alloc _
  · have h := Blk.new ((w.alloc (.cells c0 t0)).alloc (.cells c1 t1)) t2 c2
    rw [show ((w.alloc (.cells c0 t0)).alloc (.cells c1 t1)).heap.size = w.heap.size + 2 by simp] at h
    exact h.alloc _
  · have h := Blk.new (((w.alloc (.cells c0 t0)).alloc (.cells c1 t1)).alloc (.cells c2 t2)) t3 c3
    rw [show (((w.alloc (.cells c0 t0)).alloc (.cells c1 t1)).alloc (.cells c2 t2)).heap.size = w.heap.size + 3 by simp] at h
    exact h
theorem by_load16 {w : World} {g : Nat} {t : TypeId} {x : List UInt8} (h : Blk w g t (bs x).toArray) (hl : x.length = 16) : ldA w g 0 16 = some (bs x).toArray := by
  have := blk_all h (n := 16) (by simp [hl]); exact this
theorem sl_two {w : World} {g : Nat} {a b : Value} (h : Blk w g 73 #[a, b]) : Sl w 73 1 (.slice (some ⟨g, 0, none⟩) 2 2) 2 [a, b] :=
  ⟨rfl, _, _, rfl, Nat.le_refl _, by unfold maxLen; omega, fun _ => ⟨g, 0, #[a, b], (0, 0), rfl, h, fun j u hu => by simpa using hu⟩⟩

theorem hash_two (tag : UInt8) (leaf : Nat) (hleaf : leaf ≤ 65535) (x y : List UInt8) (s1 s2 : Value) (g : Nat) (w : World) (hb : Blk w g 73 #[s1, s2]) (r1 : Rd w w.heap.size s1 x) (r2 : Rd w w.heap.size s2 y) (hx : x.length ≤ 1000) (hy : y.length ≤ 1000) :
    Calls Try.prog 48 #[Proofs.Ytjdbfedkadoklaa.u8 tag, .int .i64 (leaf : Int), .slice (some ⟨g, 0, none⟩) 2 2] w fun e w' => e = .returned (.agg (bs (halfB (headB tag leaf ++ x ++ y))).toArray) ∧ Fr0 w w' := by
  have h := hash_any tag leaf hleaf [x, y] [s1, s2] (some ⟨g, 0, none⟩) 2 w (sl_two hb) (fun i hi => by
    match i, hi with
    | 0, _ => exact ⟨s1, rfl, r1⟩
    | 1, _ => exact ⟨s2, rfl, r2⟩) (by simp) (by simp) (fun z hz => by
    simp only [List.mem_cons, List.not_mem_nil, or_false] at hz
    rcases hz with rfl | rfl
    · exact hx
    · exact hy)
  rw [show headB tag leaf ++ [x, y].flatten = headB tag leaf ++ x ++ y by simp] at h
  exact h

set_option maxHeartbeats 2000000 in
theorem step_any (leaf chain at_ : Nat) (h1 : leaf ≤ 65535) (v : By 16) (w : World) :
    Calls Try.prog 41 #[.int .i64 (leaf : Int), .int .i64 (chain : Int), .int .i64 (at_ : Int), .agg (bs v.1).toArray] w fun e w' => e = .returned (.agg (bs (stepB leaf chain at_ v.1)).toArray) ∧ Fr0 w w' := by
  have hb2 := fun w => run_sl_n2 w chain at_
  have hsz : (bs v.1).toArray.size = 16 := by simp [v.2]
  obtain ⟨V, hV⟩ : ∃ V, V = (bs v.1).toArray := ⟨_, rfl⟩
  rw [← hV] at hsz ⊢
  have HV := Lib.hid hV
  clear hV
  go_enter Try.func41, Try.ntmps41
  go_wp2_with fail
  obtain ⟨w4, hw4⟩ : ∃ w4, w4 = (((w.alloc (.cells V 22)).alloc (.cells z16 22)).alloc (.cells (bs [UInt8.ofNat chain, UInt8.ofNat at_]).toArray 5)).alloc (.cells #[.slice (some ⟨w.heap.size + 1 + 1, 0, none⟩) 2 2, .slice (some ⟨w.heap.size, 0, none⟩) 16 16] 73) := ⟨_, rfl⟩
  obtain ⟨hb0, hb1, hb2', hb3, hf, hs⟩ := alloc4 _ _ _ _ _ _ _ _ _ _ hw4
  rw [← hw4]
  have hr2 : Rd w4 w4.heap.size (.slice (some ⟨w.heap.size, 0, none⟩) 16 16) v.1 := (Rd.of_blk (by rw [HV.out] at hb0; exact hb0) 16 v.2 (by unfold maxLen; omega)).mono (by omega)
  have hr1 : Rd w4 w4.heap.size (.slice (some ⟨w.heap.size + 1 + 1, 0, none⟩) 2 2) [UInt8.ofNat chain, UInt8.ofNat at_] := (Rd.of_blk hb2' 2 rfl (by unfold maxLen; omega)).mono (by omega)
  refine (hash_two 3 leaf h1 [UInt8.ofNat chain, UInt8.ofNat at_] v.1 _ _ (w.heap.size + 1 + 1 + 1) w4 hb3 hr1 hr2 (by simp) (by have := v.2; omega)).mono ?_
  rintro e w5 ⟨rfl, hf5⟩
  rw [show halfB (headB 3 leaf ++ [UInt8.ofNat chain, UInt8.ofNat at_] ++ v.1) = stepB leaf chain at_ v.1 from rfl]
  have hst2 := a16_st ⟨stepB leaf chain at_ v.1, stepB_length _ _ _ _⟩
  change ∀ (w : World) (b' p : Nat), okA w b' p 16 = true → (st 22 (.pointer (some ⟨b', p, none⟩)) (.agg (bs (stepB leaf chain at_ v.1)).toArray)).run Try.prog w = .ok () (putW w b' p (bs (stepB leaf chain at_ v.1)).toArray) at hst2
  have hB5 := hb1.fr hf5 (fun h => h)
  have hok := hB5.okA 0 16 (by simp)
  have hput := ldA_put (n := 16) hB5 (bs (stepB leaf chain at_ v.1)).toArray (by simp [stepB_length]) (by simp)
  have HP := Lib.hid hput
  have HF5 := Lib.hid (hf.trans hf5)
  clear hb0 hb1 hb2' hb3 hf hs hr1 hr2 hf5 hB5 hput hw4 hb2
  go_wp2_with fail
  refine bodyPost_agg (n := 16) (cs := (bs (stepB leaf chain at_ v.1)).toArray) rfl Try.underlying22 rfl info__16_uint8 (by rfl) ?_ rfl ?_
  · exact HP.out
  · exact ⟨rfl, HF5.out.put (S := fun _ => False) (fun h => by omega) _ _⟩

set_option maxHeartbeats 2000000 in
theorem secret_any (seed : By 32) (leaf chain : Nat) (h1 : leaf ≤ 65535) (w : World) :
    Calls Try.prog 37 #[.agg (bs seed.1).toArray, .int .i64 (leaf : Int), .int .i64 (chain : Int)] w fun e w' => e = .returned (.agg (bs (secB seed.1 leaf chain)).toArray) ∧ Fr0 w w' := by
  have hb2 := fun w => run_sl_n1 w chain
  have hsz : (bs seed.1).toArray.size = 32 := by simp [seed.2]
  obtain ⟨V, hV⟩ : ∃ V, V = (bs seed.1).toArray := ⟨_, rfl⟩
  rw [← hV] at hsz ⊢
  have HV := Lib.hid hV
  clear hV
  go_enter Try.func37, Try.ntmps37
  go_wp2_with fail
  obtain ⟨w4, hw4⟩ : ∃ w4, w4 = (((w.alloc (.cells V 31)).alloc (.cells z16 22)).alloc (.cells (bs [UInt8.ofNat chain]).toArray 5)).alloc (.cells #[.slice (some ⟨w.heap.size + 1 + 1, 0, none⟩) 1 1, .slice (some ⟨w.heap.size, 0, none⟩) 32 32] 73) := ⟨_, rfl⟩
  obtain ⟨hb0, hb1, hb2', hb3, hf, hs⟩ := alloc4 _ _ _ _ _ _ _ _ _ _ hw4
  rw [← hw4]
  have hr2 : Rd w4 w4.heap.size (.slice (some ⟨w.heap.size, 0, none⟩) 32 32) seed.1 := (Rd.of_blk (by rw [HV.out] at hb0; exact hb0) 32 seed.2 (by unfold maxLen; omega)).mono (by omega)
  have hr1 : Rd w4 w4.heap.size (.slice (some ⟨w.heap.size + 1 + 1, 0, none⟩) 1 1) [UInt8.ofNat chain] := (Rd.of_blk hb2' 1 rfl (by unfold maxLen; omega)).mono (by omega)
  refine (hash_two 2 leaf h1 [UInt8.ofNat chain] seed.1 _ _ (w.heap.size + 1 + 1 + 1) w4 hb3 hr1 hr2 (by simp) (by have := seed.2; omega)).mono ?_
  rintro e w5 ⟨rfl, hf5⟩
  rw [show halfB (headB 2 leaf ++ [UInt8.ofNat chain] ++ seed.1) = secB seed.1 leaf chain from rfl]
  have hst2 := a16_st ⟨secB seed.1 leaf chain, secB_length _ _ _⟩
  change ∀ (w : World) (b' p : Nat), okA w b' p 16 = true → (st 22 (.pointer (some ⟨b', p, none⟩)) (.agg (bs (secB seed.1 leaf chain)).toArray)).run Try.prog w = .ok () (putW w b' p (bs (secB seed.1 leaf chain)).toArray) at hst2
  have hB5 := hb1.fr hf5 (fun h => h)
  have hok := hB5.okA 0 16 (by simp)
  have hput := ldA_put (n := 16) hB5 (bs (secB seed.1 leaf chain)).toArray (by simp [secB_length]) (by simp)
  have HP := Lib.hid hput
  have HF5 := Lib.hid (hf.trans hf5)
  clear hb0 hb1 hb2' hb3 hf hs hr1 hr2 hf5 hB5 hput hw4 hb2
  go_wp2_with fail
  refine bodyPost_agg (n := 16) (cs := (bs (secB seed.1 leaf chain)).toArray) rfl Try.underlying22 rfl info__16_uint8 (by rfl) ?_ rfl ?_
  · exact HP.out
  · exact ⟨rfl, HF5.out.put (S := fun _ => False) (fun h => by omega) _ _⟩

set_option maxHeartbeats 2000000 in
/-- advance: from step a to step b. -/
theorem advance_any (leaf chain a b : Nat) (h1 : leaf ≤ 65535) (hb15 : b ≤ 15) (hab : a ≤ b) (v : By 16) (w : World) :
    Calls Try.prog 42 #[.int .i64 (leaf : Int), .int .i64 (chain : Int), .int .i64 (a : Int), .int .i64 (b : Int), .agg (bs v.1).toArray] w fun e w' => e = .returned (.agg (bs (advB leaf chain a (b - a) v.1)).toArray) ∧ Fr0 w w' := by
  have hsz : (bs v.1).toArray.size = 16 := by simp [v.2]
  obtain ⟨V, hV⟩ : ∃ V, V = (bs v.1).toArray := ⟨_, rfl⟩
  rw [← hV] at hsz ⊢
  have HV := Lib.hid hV
  clear hV
  have hw2 : (w.alloc (.cells V 22)).heap.size = w.heap.size + 1 := by simp
  have hz := Blk.new (w.alloc (.cells V 22)) 22 z16
  rw [hw2] at hz
  have HZ := Lib.hid hz
  have HB0 := Lib.hid ((Blk.new w 22 V).alloc (.cells z16 22))
  have HF0 := Lib.hid ((((Fr.refl (fun _ => False) w).alloc (.cells V 22))).alloc (.cells z16 22))
  clear hz hw2
  go_enter Try.func42, Try.ntmps42
  go_wp2_with fail
  go_loopw [11] (fun iv wr => ∃ k : Nat, a + k ≤ b ∧ iv = .int .i64 ((a + k : Nat) : Int) ∧ Blk wr w.heap.size 22 (bs (advB leaf chain a k v.1)).toArray ∧ Blk wr (w.heap.size + 1) 22 z16 ∧ Fr0 w wr) (fun iv _ => b - (intOf iv).toNat)
  case atStart => exact ⟨0, by omega, rfl, by rw [show (bs (advB leaf chain a 0 v.1)).toArray = V from HV.out.symm]; exact HB0.out, HZ.out, HF0.out⟩
  case round =>
    obtain ⟨k, hk, rfl, hB, hZ, hF⟩ := hrel
    have hal := advB_length leaf chain a k v.1 v.2
    obtain ⟨x, hx⟩ : ∃ x, x = advB leaf chain a k v.1 := ⟨_, rfl⟩
    rw [← hx] at hB hal
    obtain ⟨i, hi⟩ : ∃ i, i = a + k := ⟨_, rfl⟩
    rw [← hi] at hk ⊢
    have hld := by_load16 hB hal
    by_cases hlt : i < b
    · have z0 : (i : Int) < (b : Int) := by omega
      have HB := Lib.hid hB
      have HZr := Lib.hid hZ
      have HF := Lib.hid hF
      have HX := Lib.hid hx
      have HI := Lib.hid hi
      have HAL := Lib.hid hal
      clear hB hZ hF hx hi hal
      go_wp2_with fail
      refine (step_any leaf chain i h1 ⟨x, HAL.out⟩ wr).mono ?_
      rintro e w3 ⟨rfl, hf3⟩
      dsimp only
      have hst2 := a16_st ⟨stepB leaf chain i x, stepB_length _ _ _ _⟩
      change ∀ (w : World) (b' p : Nat), okA w b' p 16 = true → (st 22 (.pointer (some ⟨b', p, none⟩)) (.agg (bs (stepB leaf chain i x)).toArray)).run Try.prog w = .ok () (putW w b' p (bs (stepB leaf chain i x)).toArray) at hst2
      have hB3 := HB.out.fr hf3 (fun h => h)
      have hZ3 := HZr.out.fr hf3 (fun h => h)
      have hok := hB3.okA 0 16 (by simp [HAL.out])
      have hB4 := hB3.putAll (bs (stepB leaf chain i x)).toArray (by simp [stepB_length, HAL.out])
      have hZ4 := hZ3.putFar (b := w.heap.size) (by omega) 0 (bs (stepB leaf chain i x)).toArray
      have hF4 := (HF.out.trans hf3).put (b := w.heap.size) (S := fun _ => False) (fun h => by omega) 0 (bs (stepB leaf chain i x)).toArray
      have hadv : stepB leaf chain i x = advB leaf chain a (k + 1) v.1 := by rw [advB, ← HX.out, ← HI.out]
      obtain ⟨y, hy⟩ : ∃ y, y = stepB leaf chain i x := ⟨_, rfl⟩
      rw [← hy] at hst2 hB4 hZ4 hF4 hadv ⊢
      have HB4 := Lib.hid hB4
      have HZ4 := Lib.hid hZ4
      have HF4 := Lib.hid hF4
      have HADV := Lib.hid hadv
      clear hf3 hB3 hZ3 hB4 hZ4 hF4 hadv hy hld
      go_wp2_with fail
      clear hst2 hok
      go_roundw
      case rel =>
        have hh := HB4.out
        rw [HADV.out] at hh
        have := HI.out
        first
        | exact ⟨k + 1, by omega, by simp; omega, by simpa [HADV.out] using hh, by simpa [HADV.out] using HZ4.out, by simpa [HADV.out] using HF4.out⟩
        | ((repeat apply Exists.intro); exact ⟨⟨k + 1, by omega, by simp; omega, HB4.out, HZ4.out, HF4.out⟩, rfl⟩)
      case measure => simp [intOf]; omega
    · have hib : i = b := by omega
      have hkk : b - a = k := by omega
      have hst2 := a16_st ⟨x, hal⟩
      change ∀ (w : World) (b' p : Nat), okA w b' p 16 = true → (st 22 (.pointer (some ⟨b', p, none⟩)) (.agg (bs x).toArray)).run Try.prog w = .ok () (putW w b' p (bs x).toArray) at hst2
      have hok := hZ.okA 0 16 (by simp)
      have hput := ldA_put (n := 16) hZ (bs x).toArray (by simp [hal]) (by simp)
      have hxx : x = advB leaf chain a (b - a) v.1 := by rw [hkk]; exact hx
      have z0 : ¬ (i : Int) < (b : Int) := by omega
      have HP := Lib.hid hput
      have HF := Lib.hid hF
      have HXX := Lib.hid hxx
      clear hB hZ hput hF hx hi hxx hib
      go_wp2_with fail
      refine bodyPost_agg (n := 16) (cs := (bs x).toArray) rfl Try.underlying22 rfl info__16_uint8 (by rfl) ?_ rfl ?_
      · exact HP.out
      · exact ⟨by have h := HXX.out; rw [hkk] at h; rw [← h], HF.out.put (S := fun _ => False) (fun h => by omega) _ _⟩
end Go.Proofs.Ytjdbfedkadoklaa
