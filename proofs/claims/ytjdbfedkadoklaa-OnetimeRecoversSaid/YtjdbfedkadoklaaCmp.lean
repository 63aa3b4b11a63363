/- One-time signatures: compress. No condition beyond the ranges that are named. -/
import Derived.Test.YtjdbfedkadoklaaEach
namespace Go.Proofs.Ytjdbfedkadoklaa
set_option linter.unusedVariables false
set_option linter.unusedSimpArgs false
set_option maxRecDepth 10000
open Go.RowKit
attribute [local go_sem ↓] Go.wp_at_zero Go.wp_at_succ

@[go_sem ↓] theorem ex_idx_35 (ρ : Operand → Value) (dst : Option Tmp) (x y : Operand) (ty : TypeId) (pos : String) (aft : Array Edge) (gd : Option (Nat × Bool)) :
    execOp ρ ⟨dst, .index 51 x y, ty, pos, aft, gd⟩ = (do pure (.value (← idx 51 (ρ x) (ρ y)))) := rfl
theorem run_idx_35 (w : World) (cs : Array Value) (i : Nat) (h : i < 35) : (idx 51 (.agg cs) (.int .i64 (i : Int))).run Try.prog w = .ok (.agg (cs.extract (i * 16) (i * 16 + 16))) w :=
  run_idx w Try.underlying51 Try.underlying22 rfl info__16_uint8 cs .i64 i h
/-- Value c of a list of values. -/
def seg (s : List UInt8) (c : Nat) : List UInt8 := (s.drop (c * 16)).take 16
theorem seg_length {s : List UInt8} (h : s.length = 560) {c : Nat} (hc : c < 35) : (seg s c).length = 16 := by simp [seg, h]; omega
theorem seg_extract (s : List UInt8) (c : Nat) : (bs s).toArray.extract (c * 16) (c * 16 + 16) = (bs (seg s c)).toArray := by
  apply Array.toList_inj.1
  simp [seg, bs, List.extract_eq_take_drop]
theorem seg_take {s : List UInt8} (h : s.length = 560) {c : Nat} (hc : c < 35) : s.take (c * 16) ++ seg s c = s.take ((c + 1) * 16) := by
  rw [seg, show (c + 1) * 16 = c * 16 + 16 by omega, List.take_add]

set_option maxHeartbeats 1000000 in
theorem compress_any (leaf : Nat) (hleaf : leaf ≤ 65535) (E : By 560) (w : World) :
    Calls Try.prog 43 #[.int .i64 (leaf : Int), .agg (bs E.1).toArray] w fun e w' => e = .returned (.agg (bs (compB leaf E.1)).toArray) ∧ Fr0 w w' := by
  have hsz : (bs E.1).toArray.size = 560 := by simp [E.2]
  have hix : ∀ (w : World) (i : Nat), i < 35 → (idx 51 (.agg (bs E.1).toArray) (.int .i64 (i : Int))).run Try.prog w = .ok (.agg (bs (seg E.1 i)).toArray) w := fun w i h => by rw [run_idx_35 w _ i h, seg_extract]
  obtain ⟨V, HV⟩ := nm (bs E.1).toArray
  rw [← HV.out] at hsz hix ⊢
  obtain ⟨w2, HW2⟩ := nm ((w.alloc (.cells V 51)).alloc (.cells z16 22))
  obtain ⟨hb0, hb1, hf2, hs⟩ := alloc2 _ _ _ _ _ _ HW2.out
  have H2 := Lib.hid (And.intro hb1 hf2)
  have HS := Lib.hid hs
  have HIX := Lib.hid hix
  clear hb0 hb1 hf2 hs hix
  go_enter Try.func43, Try.ntmps43
  go_wp2_with fail
  rw [← HW2.out]
  clear HW2
  go_loopw [5, 7, 9] (fun v _ i wr => ∃ k : Nat, k ≤ 35 ∧ i = .int .i64 k ∧ wr.ownsRow (w.heap.size + 2) 5 1 v (E.1.take (k * 16)).length (bs (E.1.take (k * 16))) ∧ w.heap.size + 2 ≤ wr.heap.size ∧ Blk wr (w.heap.size + 1) 22 z16 ∧ Fr0 w wr) (fun _ _ i _ => 35 - (intOf i).toNat)
  case atStart => exact ⟨0, by omega, rfl, by simpa using own_nil8 w2 _, Nat.le_of_eq HS.out.symm, H2.out.1, H2.out.2⟩
  case round =>
    obtain ⟨k, hk, rfl, hown, hsz2, h1, hf⟩ := hrel
    obtain ⟨A, c, rfl, hc1, hc2⟩ := own_form hown
    have hlen : (E.1.take (k * 16)).length = k * 16 := by rw [List.length_take, E.2]; omega
    rw [hlen] at hown hc1 ⊢
    by_cases hlt : k < 35
    · have z0 : (k : Int) < 35 := by omega
      have hi1 := fun w => HIX.out w k hlt
      have hx := seg_length E.2 hlt
      have hst := a16_st ⟨seg E.1 k, hx⟩
      change ∀ (w : World) (b' p : Nat), okA w b' p 16 = true → (st 22 (.pointer (some ⟨b', p, none⟩)) (.agg (bs (seg E.1 k)).toArray)).run Try.prog w = .ok () (putW w b' p (bs (seg E.1 k)).toArray) at hst
      have hxs : (bs (seg E.1 k)).toArray.size = 16 := by simp [hx]
      obtain ⟨w3, HW3⟩ := nm (wr.alloc (.cells (bs (seg E.1 k)).toArray 22))
      have hb3 : Blk w3 wr.heap.size 22 (bs (seg E.1 k)).toArray := by rw [HW3.out]; exact Blk.new _ _ _
      have hrd : Rd w3 (wr.heap.size + 1) (.slice (some ⟨wr.heap.size, 0, none⟩) 16 16) (seg E.1 k) := Rd.of_blk hb3 16 hx (by unfold maxLen; omega)
      have hown3 : w3.ownsRow (w.heap.size + 2) 5 1 (.slice A (k * 16) c) (E.1.take (k * 16)).length (bs (E.1.take (k * 16))) := by rw [hlen, HW3.out]; exact hown.alloc _
      have hs3 : w3.heap.size = wr.heap.size + 1 := by rw [HW3.out]; simp
      obtain ⟨A2, c2, w4, hrun, hown4, hG, hge, -⟩ := app_by w3 hown3 hrd (by omega) (by omega)
      rw [seg_take E.2 hlt] at hrun hown4
      have hl2 : (E.1.take ((k + 1) * 16)).length = (k + 1) * 16 := by rw [List.length_take, E.2]; omega
      rw [hl2] at hrun
      have hf3 : Fr0 w w3 := by rw [HW3.out]; exact hf.alloc _
      have h13 : Blk w3 (w.heap.size + 1) 22 z16 := by rw [HW3.out]; exact h1.alloc _
      have hf4 := hf3.then_ hG (fun i hi hk => by have := hge i hk; omega)
      have h14 := h13.fr hG (fun e => by have := hge _ e; omega)
      have N := Lib.hid (And.intro hown4 (And.intro (show w.heap.size + 2 ≤ w4.heap.size from Nat.le_trans (by omega) hG.size) (And.intro h14 hf4)))
      have HL := Lib.hid hl2
      obtain ⟨X, HX⟩ := nm (bs (seg E.1 k)).toArray
      rw [← HX.out] at hst hxs hi1 HW3
      rw [HW3.out] at hrun
      clear hown hsz2 h1 hf hc1 hc2 hlen hx hb3 hrd hown3 hs3 hown4 hG hge hf3 h13 hf4 h14 hl2
      go_wp2_with fail
      clear hst hrun hi1
      go_roundw
      case rel =>
        exact ⟨k + 1, by omega, by go_num, by have h := N.out.1; rw [HL.out] at h ⊢; exact h, N.out.2⟩
      case measure => simp [intOf]; omega
    · have hk35 : k = 35 := by omega
      subst hk35
      have hall : E.1.take (35 * 16) = E.1 := List.take_of_length_le (by rw [E.2]; omega)
      rw [hall] at hown
      have hown' : wr.ownsRow (w.heap.size + 2) 5 1 (.slice A (35 * 16) c) (35 * 16) (bs E.1) := hown
      obtain ⟨w3, HW3⟩ := nm (wr.alloc (.cells #[.slice A (35 * 16) c] 73))
      have hs3 : w3.heap.size = wr.heap.size + 1 := by rw [HW3.out]; simp
      have hrd : Rd w3 w3.heap.size (.slice A (35 * 16) c) E.1 := Sl.rd (Sl.of_own (by rw [HW3.out]; exact hown'.alloc _))
      have hsl : Sl w3 73 1 (.slice (some ⟨wr.heap.size, 0, none⟩) 1 1) 1 [.slice A (35 * 16) c] := by rw [HW3.out]; exact Sl.new wr 73 1 1 [.slice A (35 * 16) c] rfl (by unfold maxLen; omega)
      have hh := hash_any 4 leaf hleaf [E.1] [.slice A (35 * 16) c] (some ⟨wr.heap.size, 0, none⟩) 1 w3 hsl (fun i hi => by
        match i, hi with
        | 0, _ => exact ⟨_, rfl, hrd⟩) (by simp) (by simp) (fun z hz => by
        simp only [List.mem_cons, List.not_mem_nil, or_false] at hz
        subst hz; rw [E.2]; omega)
      rw [show headB 4 leaf ++ [E.1].flatten = headB 4 leaf ++ E.1 by simp] at hh
      have HH := Lib.hid hh
      have h13 : Blk w3 (w.heap.size + 1) 22 z16 := by rw [HW3.out]; exact h1.alloc _
      have hf3 : Fr0 w w3 := by rw [HW3.out]; exact hf.alloc _
      have K := Lib.hid (And.intro h13 hf3)
      clear hown hown' hs3 hrd hsl hh h1 hf h13 hf3 hsz2 hlen hall
      go_wp2_with fail
      rw [← HW3.out]
      refine HH.out.mono ?_
      rintro e w5 ⟨rfl, hf5⟩
      rw [show halfB (headB 4 leaf ++ E.1) = compB leaf E.1 from rfl]
      have hst2 := a16_st ⟨compB leaf E.1, compB_length _ _⟩
      change ∀ (w : World) (b' p : Nat), okA w b' p 16 = true → (st 22 (.pointer (some ⟨b', p, none⟩)) (.agg (bs (compB leaf E.1)).toArray)).run Try.prog w = .ok () (putW w b' p (bs (compB leaf E.1)).toArray) at hst2
      have hys : (bs (compB leaf E.1)).toArray.size = 16 := by simp [compB_length]
      obtain ⟨Y, HY⟩ := nm (bs (compB leaf E.1)).toArray
      rw [← HY.out] at hst2 hys ⊢
      obtain ⟨hok, hput, hfin⟩ := fin_agg (n := 16) (cs := Y) (K.out.1.fr hf5 (fun h => h)) (K.out.2.trans hf5) (by omega) rfl hys
      have HP := Lib.hid (And.intro hput hfin)
      clear hf5 hput hfin
      go_wp2_with fail
      refine bodyPost_agg (n := 16) (cs := Y) rfl Try.underlying22 rfl info__16_uint8 (by rfl) ?_ rfl ?_
      · exact HP.out.1
      · exact ⟨by rw [HY.out], HP.out.2⟩
end Go.Proofs.Ytjdbfedkadoklaa
