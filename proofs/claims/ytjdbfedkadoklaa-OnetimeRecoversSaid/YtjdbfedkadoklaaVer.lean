/- Verify. Printed by gen_ver.py. No condition. -/
import Derived.Test.YtjdbfedkadoklaaRpub
namespace Go.Proofs.Ytjdbfedkadoklaa
set_option linter.unusedVariables false
set_option linter.unusedSimpArgs false
set_option maxRecDepth 10000
open Go.RowKit
attribute [local go_sem ↓] Go.wp_at_zero Go.wp_at_succ

theorem alloc3v (w : World) (t0 t1 t2 : TypeId) (c0 c1 c2 : Array Value) (w3 : World) (h : w3 = ((w.alloc (.cells c0 t0)).alloc (.cells c1 t1)).alloc (.cells c2 t2)) :
    Blk w3 w.heap.size t0 c0 ∧ Blk w3 (w.heap.size + 1) t1 c1 ∧ Blk w3 (w.heap.size + 2) t2 c2 ∧ Fr0 w w3 := by
  subst h
  obtain ⟨h0, h1, hf, hs⟩ := alloc2 w t0 t1 c0 c1 _ rfl
  refine ⟨h0.alloc _, h1.alloc _, ?_, hf.alloc _⟩
  have h := Blk.new ((w.alloc (.cells c0 t0)).alloc (.cells c1 t1)) t2 c2
  rwa [hs] at h
set_option maxHeartbeats 1000000 in
theorem Verify_ok (leaf : Nat) (hl : leaf ≤ 65535) (p d : By 16) (s : By 560) (w : World) :
    Calls Try.prog 24 #[.agg (bs p.1).toArray, .int .i64 (leaf : Int), .agg (bs d.1).toArray, .agg (bs s.1).toArray] w fun e w' => e = .returned (.bool (decide (compB leaf (endE leaf d.1 s.1) = p.1))) ∧ Fr0 w w' := by
  have hst := a16_st ⟨compB leaf (endE leaf d.1 s.1), compB_length _ _⟩
  change ∀ (w : World) (b' p : Nat), okA w b' p 16 = true → (st 22 (.pointer (some ⟨b', p, none⟩)) (.agg (bs (compB leaf (endE leaf d.1 s.1))).toArray)).run Try.prog w = .ok () (putW w b' p (bs (compB leaf (endE leaf d.1 s.1))).toArray) at hst
  have heq : ∀ w, (eqv 22 (.agg (bs (compB leaf (endE leaf d.1 s.1))).toArray) (.agg (bs p.1).toArray)).run Try.prog w = .ok (.bool (decide (compB leaf (endE leaf d.1 s.1) = p.1))) w := fun w => by
    have := run_a16_eq w ⟨compB leaf (endE leaf d.1 s.1), compB_length _ _⟩ p
    rw [this]; congr 3; exact propext Subtype.ext_iff
  have hxs : (bs (compB leaf (endE leaf d.1 s.1))).toArray.size = 16 := by simp [compB_length]
  obtain ⟨R, HR⟩ := nm (decide (compB leaf (endE leaf d.1 s.1) = p.1))
  obtain ⟨X, HX⟩ := nm (bs (compB leaf (endE leaf d.1 s.1))).toArray
  rw [← HX.out] at hst hxs heq
  rw [← HR.out] at heq ⊢
  have hsp : (bs p.1).toArray.size = 16 := by simp [p.2]
  have hsd : (bs d.1).toArray.size = 16 := by simp [d.2]
  have hsg : (bs s.1).toArray.size = 560 := by simp [s.2]
  obtain ⟨P, HP⟩ := nm (bs p.1).toArray
  obtain ⟨D, HD⟩ := nm (bs d.1).toArray
  obtain ⟨G, HG⟩ := nm (bs s.1).toArray
  rw [← HP.out] at hsp ⊢
  rw [← HD.out] at hsd ⊢
  rw [← HG.out] at hsg ⊢
  rw [← HP.out] at heq
  obtain ⟨w3, HW3⟩ := nm (((w.alloc (.cells P 22)).alloc (.cells D 22)).alloc (.cells G 52))
  obtain ⟨b0, b1, b2, bf⟩ := alloc3v _ _ _ _ _ _ _ _ HW3.out
  have hld0 := b1.all hsd
  have hld1 := b2.all hsg
  rw [HW3.out] at hld0 hld1
  have H3 := Lib.hid (And.intro b0 bf)
  clear b0 b1 b2 bf
  go_enter Try.func24, Try.ntmps24
  go_wp2_with fail
  rw [← HW3.out, HD.out, HG.out]
  refine (Recover_ok d s leaf hl _).mono ?_
  rintro e w4 ⟨rfl, hf4⟩
  rw [← HX.out]
  obtain ⟨w5, HW5⟩ := nm (w4.alloc (.cells X 22))
  have HX5 := Lib.hid (show Blk w5 w4.heap.size 22 X from by rw [HW5.out]; exact Blk.new _ _ _)
  have HP5 := Lib.hid (show Blk w5 w.heap.size 22 P from by rw [HW5.out]; exact (H3.out.1.fr hf4 (fun h => h)).alloc _)
  have HF5 := Lib.hid (show Fr0 w w5 from by rw [HW5.out]; exact (H3.out.2.trans hf4).alloc _)
  have l0 := HX5.out.all hxs
  have l1 := HP5.out.all hsp
  clear hf4 hld0 hld1
  go_wp2_with fail
  rw [← HW5.out]
  go_wp2_with fail
  rw [run_ld__16_uint8 w5 w.heap.size 0 (by rw [l1]; rfl)]
  simp only [l1]
  go_wp2_with fail
  go_ret
  exact ⟨rfl, HF5.out⟩

set_option maxHeartbeats 1000000 in
theorem Verify_bad (leaf : Int) (h : ¬ (0 ≤ leaf ∧ leaf ≤ 65535)) (p d : By 16) (s : By 560) (w : World) :
    Calls Try.prog 24 #[.agg (bs p.1).toArray, .int .i64 leaf, .agg (bs d.1).toArray, .agg (bs s.1).toArray] w fun e w' => e = .returned (.bool (false)) ∧ Fr0 w w' := by
  have hst := z16_st
  have hxs : z16.size = 16 := rfl
  obtain ⟨X, HX⟩ := nm z16
  rw [← HX.out] at hst hxs
  have hsp : (bs p.1).toArray.size = 16 := by simp [p.2]
  have hsd : (bs d.1).toArray.size = 16 := by simp [d.2]
  have hsg : (bs s.1).toArray.size = 560 := by simp [s.2]
  obtain ⟨P, HP⟩ := nm (bs p.1).toArray
  obtain ⟨D, HD⟩ := nm (bs d.1).toArray
  obtain ⟨G, HG⟩ := nm (bs s.1).toArray
  rw [← HP.out] at hsp ⊢
  rw [← HD.out] at hsd ⊢
  rw [← HG.out] at hsg ⊢
  skip
  obtain ⟨w3, HW3⟩ := nm (((w.alloc (.cells P 22)).alloc (.cells D 22)).alloc (.cells G 52))
  obtain ⟨b0, b1, b2, bf⟩ := alloc3v _ _ _ _ _ _ _ _ HW3.out
  have hld0 := b1.all hsd
  have hld1 := b2.all hsg
  rw [HW3.out] at hld0 hld1
  have H3 := Lib.hid (And.intro b0 bf)
  clear b0 b1 b2 bf
  go_enter Try.func24, Try.ntmps24
  go_wp2_with fail
  rw [← HW3.out, HD.out, HG.out]
  refine (Recover_bad d s leaf h _).mono ?_
  rintro e w4 ⟨rfl, hf4⟩
  rw [← HX.out]
  obtain ⟨w5, HW5⟩ := nm (w4.alloc (.cells X 22))
  have HX5 := Lib.hid (show Blk w5 w4.heap.size 22 X from by rw [HW5.out]; exact Blk.new _ _ _)
  have HP5 := Lib.hid (show Blk w5 w.heap.size 22 P from by rw [HW5.out]; exact (H3.out.1.fr hf4 (fun h => h)).alloc _)
  have HF5 := Lib.hid (show Fr0 w w5 from by rw [HW5.out]; exact (H3.out.2.trans hf4).alloc _)
  have l0 := HX5.out.all hxs
  have l1 := HP5.out.all hsp
  clear hf4 hld0 hld1
  go_wp2_with fail
  rw [← HW5.out]
  go_wp2_with fail
  go_ret
  exact ⟨rfl, HF5.out⟩

end Go.Proofs.Ytjdbfedkadoklaa
