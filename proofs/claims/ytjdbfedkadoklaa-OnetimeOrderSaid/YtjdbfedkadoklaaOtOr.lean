/- OnetimeOrder: the law's walk. No condition. -/
import Derived.Test.YtjdbfedkadoklaaLowR
import Derived.Laws.BitsAllLaws
namespace Go.Proofs.Ytjdbfedkadoklaa
set_option linter.unusedVariables false
set_option linter.unusedSimpArgs false
set_option maxRecDepth 10000
open Go.RowKit
attribute [local go_sem ↓] Go.wp_at_zero Go.wp_at_succ

def xorAt (a : List UInt8) (i : Nat) (y : UInt8) : List UInt8 := a.set i (a.getD i 0 ^^^ y)
theorem xorAt_length (a : List UInt8) (i : Nat) (y : UInt8) : (xorAt a i y).length = a.length := by simp [xorAt]

set_option maxHeartbeats 1000000 in
theorem order_all (a : By 16) (t : Nat) (ht : t < 256) (y : UInt8) (w : World) :
    Calls Try.prog 4 #[.agg (bs a.1).toArray, .int .u8 (t : Int), .int .u8 (y.toNat : Int)] w fun e w' => e = .returned (.bool true) ∧ Fr0 w w' := by
  have hsa : (bs a.1).toArray.size = 16 := by simp [a.2]
  obtain ⟨x, hx⟩ : ∃ x, a.1[t % 16]? = some x := ⟨_, List.getElem?_eq_getElem (by have := a.2; omega)⟩
  obtain ⟨i, hi⟩ : ∃ i, t % 16 = i := ⟨_, rfl⟩
  rw [hi] at hx
  have hi' : (t : Int) % 16 = (i : Int) := by omega
  have hi16 : i < 16 := by omega
  obtain ⟨A, HA⟩ := nm (bs a.1).toArray
  have hxA : A[i]? = some (.int .u8 (x.toNat : Int)) := by rw [HA.out]; simp [bs, hx, Proofs.Ytjdbfedkadoklaa.u8]
  have hstA := a16_st a
  rw [← HA.out] at hsa hstA ⊢
  obtain ⟨w2, HW2⟩ := nm ((w.alloc (.cells A 22)).alloc (.cells A 22))
  obtain ⟨hb0, hb1, hf, hs⟩ := alloc2 _ _ _ _ _ _ HW2.out
  have cx : ((w.alloc (.cells A 22)).alloc (.cells A 22)).cell? ⟨w.heap.size + 1, i, none⟩ = some (.int .u8 (x.toNat : Int)) := by rw [← HW2.out, hb1.cell i]; exact hxA
  have HI := Lib.hid hi
  clear hi
  have hxor : bits .xor .u8 (x.toNat : Int) (y.toNat : Int) = ((x ^^^ y).toNat : Int) := by rw [u8_xor_nat _ _ x.toNat_lt y.toNat_lt, UInt8.toNat_xor]
  have hgd : a.1.getD i 0 = x := by simp [List.getD, hx]
  obtain ⟨z, HZ⟩ := nm (x ^^^ y)
  rw [← HZ.out] at hxor
  have hst : ∀ (w : World) (b o : Nat), (w.cell? ⟨b, o, none⟩).isSome = true → w.frozen? ⟨b, o, none⟩ = false → (st 5 (.pointer (some ⟨b, o, none⟩)) (.int .u8 (z.toNat : Int))).run Try.prog w = .ok () (w.setCell ⟨b, o, none⟩ (.int .u8 (z.toNat : Int))) := fun w b o h1 h2 => run_st_uint8 w b o z h1 h2
  go_enter Try.func4, Try.ntmps4
  go_wp2_with fail
  obtain ⟨b, hb⟩ : ∃ b : By 16, b.1 = xorAt a.1 i y := ⟨⟨xorAt a.1 i y, by rw [xorAt_length]; exact a.2⟩, rfl⟩
  have hB : A.setIfInBounds i (.int .u8 (z.toNat : Int)) = (bs b.1).toArray := by
    rw [hb, xorAt, hgd, HA.out, List.setIfInBounds_toArray, HZ.out]
    congr 1
    simp [bs, List.map_set, Proofs.Ytjdbfedkadoklaa.u8]
  have hsb : (A.setIfInBounds i (.int .u8 (z.toNat : Int))).size = 16 := by rw [Array.size_setIfInBounds]; exact hsa
  obtain ⟨B, HB⟩ := nm (A.setIfInBounds i (.int .u8 (z.toNat : Int)))
  rw [← HB.out] at hB hsb ⊢
  have HB' := Lib.hid hB
  obtain ⟨w3, HW3⟩ := nm ((w.alloc (.cells A 22)).alloc (.cells B 22))
  obtain ⟨hb0', hb1', hf', -⟩ := alloc2 _ _ _ _ _ _ HW3.out
  have HA3 := Lib.hid hb0'
  have HB3 := Lib.hid hb1'
  have HF3 := Lib.hid hf'
  clear hb0 hb1 hf hs HW2 cx hb0' hb1' hf' hB hxor hst hstA hxA hi' hi16
  rw [← HW3.out, HA.out, HB'.out]
  refine (lower_any a b _).mono ?_
  rintro e w4 ⟨rfl, hf4⟩
  rw [← HA.out, ← HB'.out]
  have hne : y ≠ 0 ↔ a.1 ≠ b.1 := by
    rw [hb, xorAt, hgd]
    have hil : i < a.1.length := by
      rcases Nat.lt_or_ge i a.1.length with h | h
      · exact h
      · rw [List.getElem?_eq_none h] at hx; cases hx
    constructor
    · intro hy h
      have h1 : a.1[i]? = some (x ^^^ y) := by
        conv => lhs; rw [h]
        rw [List.getElem?_set_self hil]
      rw [hx] at h1
      injection h1 with h1
      have h2 : x ^^^ x = x ^^^ (x ^^^ y) := by rw [← h1]
      rw [← UInt8.xor_assoc, UInt8.xor_self, UInt8.zero_xor] at h2
      exact hy h2.symm
    · intro hy h
      apply hy
      rw [h, UInt8.xor_zero]
      obtain ⟨_, hg⟩ := List.getElem?_eq_some_iff.1 hx
      rw [← hg, List.set_getElem_self]
  have HN := Lib.hid hne
  have hlA := (HA3.out.fr hf4 (fun h => h)).all hsa
  have hlB := (HB3.out.fr hf4 (fun h => h)).all hsb
  have HF4 := Lib.hid (HF3.out.trans hf4)
  clear hne hf4 hb hgd hx
  by_cases hy : y = 0
  · have hab : a.1 = b.1 := Classical.byContradiction fun h => HN.out.2 h hy
    have HN1 := Lib.hid (show lowN a.1 b.1 = none by rw [← hab]; exact low_same _)
    have HN2 := Lib.hid (show lowN b.1 a.1 = none by rw [← hab]; exact low_same _)
    subst hy
    clear hab
    rw [HN1.out]
    simp only [iv, Option.getD_none, Option.isSome_none]
    go_wp2_with fail
    rw [HA.out, HB'.out]
    refine (lower_any b a _).mono ?_
    rintro e w5 ⟨rfl, hf5⟩
    rw [HN2.out]
    simp only [iv, Option.getD_none, Option.isSome_none]
    have HF5 := Lib.hid (HF4.out.trans hf5)
    clear hlA hlB hf5
    go_wp2_with fail
    refine (known_any _).mono ?_
    rintro e w6 ⟨rfl, hf6⟩
    have HF6 := Lib.hid (HF5.out.trans hf6)
    clear hf6
    go_wp2_with fail
    go_ret
    exact ⟨rfl, HF6.out⟩
  · have hab : a.1 ≠ b.1 := HN.out.1 hy
    obtain ⟨k, hk⟩ := Option.isSome_iff_exists.1 (low_ne a.2 b.2 hab)
    obtain ⟨j, hj⟩ := Option.isSome_iff_exists.1 (low_ne b.2 a.2 (Ne.symm hab))
    have HN1 := Lib.hid hk
    have HN2 := Lib.hid hj
    have hyn : ¬ (y.toNat : Int) = 0 := fun h => hy (UInt8.toNat_inj.1 (by simp; omega))
    clear hab hy hk hj
    rw [HN1.out]
    simp only [iv, Option.getD_some, Option.isSome_some]
    go_wp2_with fail
    rw [HA.out, HB'.out]
    refine (lower_any b a _).mono ?_
    rintro e w5 ⟨rfl, hf5⟩
    rw [HN2.out]
    simp only [iv, Option.getD_some, Option.isSome_some]
    have HF5 := Lib.hid (HF4.out.trans hf5)
    clear hlA hlB hf5
    go_wp2_with fail
    refine (known_any _).mono ?_
    rintro e w6 ⟨rfl, hf6⟩
    have HF6 := Lib.hid (HF5.out.trans hf6)
    clear hf6
    go_wp2_with fail
    go_ret
    exact ⟨ret_bool (bne_iff_ne.2 hyn), HF6.out⟩
theorem order_walk (a : By 16) (t y : Int) (w : World) (ht : (Lit.int .u8 t).wf = true) (hy : (Lit.int .u8 y).wf = true) :
    Calls Try.prog 4 #[.agg (bs a.1).toArray, .int .u8 t, .int .u8 y] w fun e w' => e = .returned (.bool true) ∧ Below w.heap.size w w' := by
  have h1 := bounds_u8 ht
  have h2 := bounds_u8 hy
  obtain ⟨t, rfl⟩ := Int.eq_ofNat_of_zero_le h1.1
  obtain ⟨y, rfl⟩ := Int.eq_ofNat_of_zero_le h2.1
  have h3 : (UInt8.ofNat y).toNat = y := by rw [UInt8.toNat_ofNat']; omega
  have h := order_all a t (by omega) (UInt8.ofNat y) w
  rw [h3] at h
  exact h.mono fun e w' ⟨he, hf⟩ => ⟨he, Fr0.below hf⟩
end Go.Proofs.Ytjdbfedkadoklaa
