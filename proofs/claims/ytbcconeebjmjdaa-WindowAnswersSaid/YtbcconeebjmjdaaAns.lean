/- WindowAnswers: the walk. No condition. -/
import Derived.Test.YtbcconeebjmjdaaBuild
namespace Go.Proofs.Ytbcconeebjmjdaa
open Go.RowKit
attribute [local go_sem ↓] Go.wp_at_zero Go.wp_at_succ

theorem find_set (l : List Off) (id : By 32) (n : Int) (o : Off) (h : l.find? (hasId id) = some o) : (setOc l id n).find? (hasId id) = some { o with oc := n } := by
  unfold setOc
  induction l with
  | nil => simp at h
  | cons x l ih =>
    cases hx : hasId id x with
    | true =>
      simp only [List.find?_cons, hx, Option.some.injEq] at h
      subst h
      have hx' : hasId id { x with oc := n } = true := hx
      simp [List.findIdx?_cons, hx, hx']
    | false =>
      simp only [List.find?_cons, hx] at h
      have := ih h
      cases hj : l.findIdx? (hasId id) with
      | none =>
        rw [hj] at this
        simp [List.findIdx?_cons, hx, hj, this]
      | some j =>
        rw [hj] at this
        simp only [List.findIdx?_cons, hx, hj]
        simp [hx]
        simpa using this

def wasOf (l : List Off) (id : By 32) : Int := match l.find? (hasId id) with | some o => o.oc | none => 0
def isOf (l : List Off) (id : By 32) : Bool := (l.find? (hasId id)).isSome
theorem outcome_any (g : Nat) (m : Win) (id : By 32) (w : World) (hw : WinAt w g m) :
    Calls Try.prog 28 #[wptr g, idV id] w fun e w' => e = .returned (.tuple #[.int .i64 (wasOf m.l id), .bool (isOf m.l id)]) ∧ Fr0 w w' := by
  unfold wasOf isOf
  cases h : m.l.find? (hasId id) with
  | none => exact outcome_none g m id w hw h
  | some o => exact outcome_some g m id o w hw h
theorem idx_is (l : List Off) (id : By 32) : (isOf l id = true ∧ 0 ≤ idx (hasId id) l) ∨ (isOf l id = false ∧ idx (hasId id) l < 0) := by
  unfold isOf
  cases h : l.find? (hasId id) with
  | none => right; exact ⟨rfl, by rw [idx_neg _ _ h]; omega⟩
  | some o => left; obtain ⟨k, _, hk, _⟩ := idx_pos _ _ _ h; exact ⟨rfl, by rw [hk]; omega⟩
theorem ans_facts (m : Win) (id : By 32) (n : Int) : ∃ was isb now er m' k, wasOf m.l id = was ∧ isOf m.l id = isb ∧ answerW m id n = (m', er) ∧ wasOf m'.l id = now ∧ isOf m'.l id = isb ∧ idx (hasId id) m.l = k ∧
    ((isb = true ∧ 0 ≤ k) ∨ (isb = false ∧ k < 0)) ∧
    ((isb = true ∧ 1 ≤ n ∧ n ≤ 5 ∧ poss was n = true ∧ er = 0 ∧ now = n) ∨ ((er != 0) = true ∧ m' = m ∧ now = was ∧ (isb = false ∨ (isb = true ∧ (n < 1 ∨ 5 < n ∨ (1 ≤ n ∧ n ≤ 5 ∧ poss was n = false))))) ) := by
  refine ⟨_, _, _, _, (answerW m id n).1, _, rfl, rfl, rfl, rfl, ?_, rfl, idx_is _ _, ?_⟩
  · unfold answerW isOf
    cases h : m.l.find? (hasId id) with
    | none => rw [h]
    | some o =>
      dsimp only
      split
      · split
        · rw [find_set _ _ _ _ h]; rfl
        · rw [h]
      · rw [h]
  · unfold answerW isOf wasOf
    cases h : m.l.find? (hasId id) with
    | none => right; exact ⟨rfl, rfl, by rw [h], .inl rfl⟩
    | some o =>
      dsimp only
      split
      · rename_i hn
        split
        · rename_i hp
          left
          exact ⟨rfl, hn.1, hn.2, hp, rfl, by rw [find_set _ _ _ _ h]⟩
        · rename_i hp
          right
          exact ⟨rfl, rfl, by rw [h], .inr ⟨rfl, .inr (.inr ⟨hn.1, hn.2, by simpa using hp⟩)⟩⟩
      · rename_i hn
        right
        exact ⟨rfl, rfl, by rw [h], .inr ⟨rfl, by omega⟩⟩

set_option maxHeartbeats 4000000 in
theorem answers_walk (a : Int) (l : List OpM) (A : Option Addr) (c : Nat) (id : By 32) (n : Int) (w : World) (ha : Arg w w.heap.size A l.length c 34 (l.flatMap opC)) :
    Calls Try.prog 8 #[.int .i64 a, .slice A l.length c, idV id, .int .i64 n] w fun e w' => e = .returned (.bool true) ∧ Below w.heap.size w w' := by
  have hlc := ha.cap
  have hcm := ha.max
  unfold maxLen at hcm
  have HA := Lib.hid ha
  have HF0 := Lib.hid ((Fr.refl (fun _ => False) w).alloc (.cells (bs id.1).toArray 37))
  have HD0 := Lib.hid (Blk.new w 37 (bs id.1).toArray)
  clear ha
  by_cases h100 : (100 : Int) < (l.length : Int)
  · go_enter Try.func8, Try.ntmps8
    go_wp2_with fail
    refine (known_any _).mono ?_
    rintro e w1 ⟨rfl, hf1⟩
    have HF1 := Lib.hid hf1
    clear hf1
    go_wp2_with fail
    refine (known_any _).mono ?_
    rintro e w2 ⟨rfl, hf2⟩
    have HF2 := Lib.hid hf2
    clear hf2
    go_wp2_with fail
    go_ret
    exact ⟨rfl, Fr0.below ((HF0.out.trans HF1.out).trans HF2.out)⟩
  · go_enter Try.func8, Try.ntmps8
    go_wp2_with fail
    refine (known_any _).mono ?_
    rintro e w1 ⟨rfl, hf1⟩
    have HF1 := Lib.hid (HF0.out.trans hf1)
    have HD1 := Lib.hid (show Blk w1 w.heap.size 37 (bs id.1).toArray from Blk.fr (S := fun _ => False) HD0.out hf1 (fun h => h))
    clear hf1
    go_wp2_with fail
    have HA1 := Lib.hid (HA.out.below (Fr0.below HF1.out))
    refine (build_any a l A c w1 ⟨HA1.out.len, HA1.out.cap, HA1.out.max, fun hn => by obtain ⟨b, off, h1, h2, h3⟩ := HA1.out.at_ hn; exact ⟨b, off, h1, by have := HF1.out.size; omega, h3⟩⟩ (by omega)).mono ?_
    rintro e w2 ⟨g, m, v, rfl, hg, hW, hS, hI, hN, hL, hF⟩
    obtain ⟨Av, cv, rfl, -, -⟩ := hS.form
    have HG := Lib.hid (show w.heap.size < g from by have := HD1.out.lt; omega)
    have hgl := hW.lt
    have HZ2 := Lib.hid hgl
    have HF2 := Lib.hid (HF1.out.trans (hF.alloc (.cells (mdC m (.slice Av m.l.length cv)) 58)))
    have HD2 := Lib.hid (show Blk (w2.alloc (.cells (mdC m (.slice Av m.l.length cv)) 58)) w.heap.size 37 (bs id.1).toArray from (Blk.fr (S := fun _ => False) HD1.out hF (fun h => h)).alloc _)
    have HW2 := Lib.hid (hW.fr0 ((Fr.refl _ _).alloc (.cells (mdC m (.slice Av m.l.length cv)) 58)))
    have HS2 := Lib.hid (hS.alloc (.cells (mdC m (.slice Av m.l.length cv)) 58))
    have HM2 := Lib.hid (Blk.new w2 58 (mdC m (.slice Av m.l.length cv)))
    have HI := Lib.hid hI
    have hml : m.l.length ≤ 10000 := by omega
    have hid2 := HD2.out.ldA 0 32 (by simp)
    simp only [Nat.zero_add] at hid2
    rw [show (bs id.1).toArray.extract 0 32 = (bs id.1).toArray by simp] at hid2
    clear hg hW hS hI hN hF hgl
    obtain ⟨was, isb, now, er, m', k, e1, e2, e3, e4, e5, e6, hik, hcase⟩ := ans_facts m id n
    have E1 := Lib.hid e1
    have E2 := Lib.hid e2
    have E3 := Lib.hid e3
    have E4 := Lib.hid e4
    have E5 := Lib.hid e5
    have E6 := Lib.hid e6
    have HIK := Lib.hid hik
    have HC := Lib.hid hcase
    clear e1 e2 e3 e4 e5 e6 hik hcase
    go_wp2_with fail
    refine (outcome_any g m id _ HW2.out).mono ?_
    rintro e w3 ⟨rfl, hF⟩
    rw [E1.out, E2.out]
    have HW3 := Lib.hid (HW2.out.fr0 hF)
    have HF3 := Lib.hid (HF2.out.trans hF)
    have HS3 := Lib.hid (HS2.out.fr0 hF)
    have HD3 := Lib.hid (show Blk w3 w.heap.size 37 (bs id.1).toArray from Blk.fr (S := fun _ => False) HD2.out hF (fun h => h))
    have HM3 := Lib.hid (show Blk w3 w2.heap.size 58 (mdC m (.slice Av m.l.length cv)) from Blk.fr (S := fun _ => False) HM2.out hF (fun h => h))
    clear hF hid2
    go_wp2_with fail
    refine (wclone_any g m _ HW3.out hml).mono ?_
    rintro e w4 ⟨g', rfl, hg', hW', hF⟩
    have HG' := Lib.hid (show g ≠ g' from by have := HW3.out.lt; omega)
    have HW4 := Lib.hid (HW3.out.fr0 hF)
    have HC4 := Lib.hid hW'
    have HF4 := Lib.hid (HF3.out.trans hF)
    have HS4 := Lib.hid (HS3.out.fr0 hF)
    have HD4 := Lib.hid (show Blk w4 w.heap.size 37 (bs id.1).toArray from Blk.fr (S := fun _ => False) HD3.out hF (fun h => h))
    have HM4 := Lib.hid (show Blk w4 w2.heap.size 58 (mdC m (.slice Av m.l.length cv)) from Blk.fr (S := fun _ => False) HM3.out hF (fun h => h))
    clear hF hg' hW'
    have hid4 := HD4.out.ldA 0 32 (by simp)
    simp only [Nat.zero_add] at hid4
    rw [show (bs id.1).toArray.extract 0 32 = (bs id.1).toArray by simp] at hid4
    go_wp2_with fail
    refine (answer_any g m id n _ HW4.out HI.out hml).mono ?_
    rintro e w5 ⟨rfl, hW, hF⟩
    rw [E3.out] at hW ⊢
    dsimp only at hW ⊢
    obtain ⟨vw, hBg, -⟩ := HW4.out
    have HW5 := Lib.hid hW
    have HC5 := Lib.hid (HC4.out.fr1 HW4.out hF HG'.out.symm)
    have HF5 := Lib.hid (show Fr0 w w5 from HF4.out.then_ hF (fun i hi e => by have := HG.out; omega))
    have HS5 := Lib.hid (HS4.out.fr1 hF hBg (by decide))
    have HD5 := Lib.hid (show Blk w5 w.heap.size 37 (bs id.1).toArray from HD4.out.fr hF (by have := HG.out; omega))
    have HM5 := Lib.hid (HM4.out.fr hF (by have := HZ2.out; omega))
    clear hF hW hBg vw hid4
    have hid5 := HD5.out.ldA 0 32 (by simp)
    simp only [Nat.zero_add] at hid5
    rw [show (bs id.1).toArray.extract 0 32 = (bs id.1).toArray by simp] at hid5
    go_wp2_with fail
    refine (outcome_any g m' id _ HW5.out).mono ?_
    rintro e w6 ⟨rfl, hF⟩
    rw [E4.out, E5.out]
    have HW6 := Lib.hid (HW5.out.fr0 hF)
    have HC6 := Lib.hid (HC5.out.fr0 hF)
    have HF6 := Lib.hid (HF5.out.trans hF)
    have HS6 := Lib.hid (HS5.out.fr0 hF)
    have HD6 := Lib.hid (show Blk w6 w.heap.size 37 (bs id.1).toArray from Blk.fr (S := fun _ => False) HD5.out hF (fun h => h))
    have HM6 := Lib.hid (show Blk w6 w2.heap.size 58 (mdC m (.slice Av m.l.length cv)) from Blk.fr (S := fun _ => False) HM5.out hF (fun h => h))
    clear hF hid5
    have hid6 := HD6.out.ldA 0 32 (by simp)
    simp only [Nat.zero_add] at hid6
    rw [show (bs id.1).toArray.extract 0 32 = (bs id.1).toArray by simp] at hid6
    have hx0 := HM6.out.cell 0
    have hx1 := HM6.out.cell 1
    simp at hx0 hx1
    go_wp2_with fail
    refine (mfind_any m _ id _ HS6.out hml).mono ?_
    rintro e w7 ⟨rfl, hF⟩
    rw [E6.out]
    have HW7 := Lib.hid (HW6.out.fr0 hF)
    have HC7 := Lib.hid (HC6.out.fr0 hF)
    have HF7 := Lib.hid (HF6.out.trans hF)
    clear hF hid6 hx0 hx1
    rcases HC.out with ⟨rfl, hn1, hn5, hp, rfl, rfl⟩ | ⟨her, rfl, rfl, rfl | ⟨rfl, hn | hn | ⟨hn1, hn5, hp⟩⟩⟩
    · have hk : 0 ≤ k := by rcases HIK.out with ⟨_, h⟩ | ⟨h, _⟩; exact h; cases h
      go_wp2_with fail
      refine (possible_any _ _ _).mono ?_
      rintro e w8 ⟨rfl, rfl⟩
      rw [hp]
      go_wp2_with fail
      go_ret
      exact ⟨rfl, Fr0.below HF7.out⟩
    · have hk : ¬ 0 ≤ k := by rcases HIK.out with ⟨h, _⟩ | ⟨_, h⟩; cases h; omega
      go_wp2_with fail
      refine (equal_any g g' _ _ _ HW7.out HC7.out).mono ?_
      rintro e w8 ⟨rfl, hF⟩
      simp only [and_self, decide_true]
      go_wp2_with fail
      go_ret
      exact ⟨rfl, Fr0.below (HF7.out.trans hF)⟩
    · have hk : 0 ≤ k := by rcases HIK.out with ⟨_, h⟩ | ⟨h, _⟩; exact h; cases h
      have hn' : ¬ 1 ≤ n := by omega
      go_wp2_with fail
      refine (equal_any g g' _ _ _ HW7.out HC7.out).mono ?_
      rintro e w8 ⟨rfl, hF⟩
      simp only [and_self, decide_true]
      go_wp2_with fail
      go_ret
      exact ⟨rfl, Fr0.below (HF7.out.trans hF)⟩
    · have hk : 0 ≤ k := by rcases HIK.out with ⟨_, h⟩ | ⟨h, _⟩; exact h; cases h
      have hn' : ¬ n ≤ 5 := by omega
      have hn'' : 1 ≤ n := by omega
      go_wp2_with fail
      refine (equal_any g g' _ _ _ HW7.out HC7.out).mono ?_
      rintro e w8 ⟨rfl, hF⟩
      simp only [and_self, decide_true]
      go_wp2_with fail
      go_ret
      exact ⟨rfl, Fr0.below (HF7.out.trans hF)⟩
    · have hk : 0 ≤ k := by rcases HIK.out with ⟨_, h⟩ | ⟨h, _⟩; exact h; cases h
      go_wp2_with fail
      refine (possible_any _ _ _).mono ?_
      rintro e w8 ⟨rfl, rfl⟩
      rw [hp]
      go_wp2_with fail
      refine (equal_any g g' _ _ _ HW7.out HC7.out).mono ?_
      rintro e w8 ⟨rfl, hF⟩
      simp only [and_self, decide_true]
      go_wp2_with fail
      go_ret
      exact ⟨rfl, Fr0.below (HF7.out.trans hF)⟩
end Go.Proofs.Ytbcconeebjmjdaa
