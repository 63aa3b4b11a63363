/- Chapter 36, the window's own functions: contracts, part D: Room, Offer. No condition beyond the lengths that are named. -/
import Derived.Test.YtbcconeebjmjdaaWinC
namespace Go.Proofs.Ytbcconeebjmjdaa
open Go.RowKit
attribute [local go_sem ↓] Go.wp_at_zero Go.wp_at_succ

theorem room_any (g : Nat) (m : Win) (w : World) (hw : WinAt w g m) (hl : m.l.length ≤ 100000) (h1 : 0 ≤ m.size) (h2 : m.size ≤ 64) :
    Calls Try.prog 22 #[wptr g] w fun e w' => e = .returned (.int .i64 (max 0 (m.size - (outs m.l).length))) ∧ Fr0 w w' := by
  have HW := Lib.hid hw
  have hg := hw.lt
  have hlen : (outs m.l).length ≤ 100000 := by
    have h1 := List.length_filter_le isOut m.l
    simp only [outs, List.length_map]; omega
  obtain ⟨v, hb, hs⟩ := hw
  have hc0 := hb.cell 0
  simp at hc0
  clear hb hs
  have hwrap : IntKind.i64.wrap (m.size - ((outs m.l).length : Int)) = m.size - ((outs m.l).length : Int) := IntWalk.i64_in _ (by omega)
  go_enter Try.func22, Try.ntmps22
  go_wp2_with fail
  go_region_held3 (fun w' => w'.cell? ⟨g, 0, none⟩ = some (.int .i64 m.size)) (assumption)
    (first | (go_at_call 14; refine (outstanding_any' g m _ (HW.out.fr0 ((Fr.refl _ _).drew)) hl).mono ?_
              rintro e w' ⟨A, c, rfl, ho, hf⟩
              have hc2 : w'.cell? ⟨g, 0, none⟩ = some (.int .i64 m.size) := (hf.cell (p := ⟨g, 0, none⟩) hg (fun h => h)).trans hc0
              have HF := Lib.hid hf
              have HO := Lib.hid ho
              clear hf ho))
  clear hwrap
  go_wp2_with fail
  all_goals
    go_ret
    exact ⟨ret_int (by omega), Fr.trans ((Fr.refl _ _).drew) HF.out⟩
theorem room_nil (w : World) : Calls Try.prog 22 #[.pointer none] w fun e w' => e = .returned (.int .i64 0) ∧ w = w' := by
  go_enter Try.func22, Try.ntmps22
  go_wp2_with fail
  go_ret
  exact ⟨rfl, rfl⟩

theorem offer_nil (id : By 32) (n : Int) (w : World) : Calls Try.prog 15 #[.pointer none, idV id, .int .i64 n] w fun e w' => e = .returned (.int .i64 1) ∧ Fr0 w w' := by
  go_enter Try.func15, Try.ntmps15
  go_wp2_with fail
  go_ret
  exact ⟨rfl, (Fr.refl _ _).alloc _⟩
theorem offer_range (g : Nat) (id : By 32) (n : Int) (w : World) (hn : n < 0 ∨ 65536 < n) : Calls Try.prog 15 #[wptr g, idV id, .int .i64 n] w fun e w' => e = .returned (.int .i64 2) ∧ Fr0 w w' := by
  rcases hn with hn | hn
  · go_enter Try.func15, Try.ntmps15
    go_wp2_with fail
    go_ret
    exact ⟨rfl, (Fr.refl _ _).alloc _⟩
  · have hn0 : ¬ n < 0 := by omega
    go_enter Try.func15, Try.ntmps15
    go_wp2_with fail
    go_ret
    exact ⟨rfl, (Fr.refl _ _).alloc _⟩
theorem offer_dup (g : Nat) (m : Win) (id : By 32) (n : Int) (o : Off) (w : World) (hw : WinAt w g m) (hn : 0 ≤ n ∧ n ≤ 65536) (h : m.l.find? (hasId id) = some o) :
    Calls Try.prog 15 #[wptr g, idV id, .int .i64 n] w fun e w' => e = .returned (.int .i64 7) ∧ Fr0 w w' := by
  obtain ⟨k, hk, hi, _, _, _⟩ := idx_pos _ _ _ h
  clear h
  obtain ⟨hn1, hn2⟩ := hn
  have hn0 : ¬ n < 0 := by omega
  have hn3 : ¬ 65536 < n := by omega
  have HW := Lib.hid hw
  clear hw
  go_enter Try.func15, Try.ntmps15
  go_wp2_with fail
  refine (find_any g m id _ (HW.out.fr0 ((Fr.refl _ _).alloc _))).mono ?_
  rintro e w1 ⟨rfl, hf⟩
  rw [hi]
  have HF := Lib.hid hf
  clear hf hi
  go_wp2_with fail
  go_ret
  exact ⟨rfl, ((Fr.refl _ _).alloc _).trans HF.out⟩

theorem offer_busy (g : Nat) (m : Win) (id : By 32) (n : Int) (w : World) (hw : WinAt w g m) (hl : m.l.length ≤ 100000) (hn : 0 ≤ n ∧ n ≤ 65536) (h : m.l.find? (hasId id) = none) (hb : m.size ≤ (outs m.l).length) :
    Calls Try.prog 15 #[wptr g, idV id, .int .i64 n] w fun e w' => e = .returned (.int .i64 25) ∧ Fr0 w w' := by
  have hi := idx_neg _ _ h
  clear h
  obtain ⟨hn1, hn2⟩ := hn
  have hn0 : ¬ n < 0 := by omega
  have hn3 : ¬ 65536 < n := by omega
  have HW := Lib.hid hw
  have hg := hw.lt
  clear hw
  go_enter Try.func15, Try.ntmps15
  go_wp2_with fail
  refine (find_any g m id _ (HW.out.fr0 ((Fr.refl _ _).alloc _))).mono ?_
  rintro e w1 ⟨rfl, hf⟩
  rw [hi]
  have hf2 := ((Fr.refl _ w).alloc (.cells (bs id.1).toArray 37)).trans hf
  have HF := Lib.hid hf2
  have HW1 := Lib.hid (HW.out.fr0 hf2)
  obtain ⟨v, hbk, hs⟩ := HW1.out
  have hc0 := hbk.cell 0
  simp at hc0
  have hg1 := hbk.lt
  clear hf hi hf2 hbk hs
  go_wp2_with fail
  go_region_held3 (fun w' => w'.cell? ⟨g, 0, none⟩ = some (.int .i64 m.size)) (assumption)
    (first | (go_at_call 14; refine (outstanding_any' g m _ (HW1.out.fr0 ((Fr.refl _ _).drew)) hl).mono ?_
              rintro e w' ⟨A, c, rfl, ho, hf⟩
              have hc2 : w'.cell? ⟨g, 0, none⟩ = some (.int .i64 m.size) := (hf.cell (p := ⟨g, 0, none⟩) hg1 (fun h => h)).trans hc0
              have HF2 := Lib.hid hf
              clear hf ho))
  go_wp2_with fail
  go_ret
  exact ⟨rfl, HF.out.trans (Fr.trans ((Fr.refl _ _).drew) HF2.out)⟩

/-- The last step: the window's slice is replaced by one of the call's own. -/
theorem win_store {w w2 w5 : World} {g : Nat} {m : Win} {l : List Off} {v5 : Value} {n5 : Nat} {xs : List Value} (hf3 : Fr0 w w2) (hw : WinAt w2 g m) (hf5 : Fr0 w2 w5) (ho : w5.ownsRow w2.heap.size 81 34 v5 n5 xs)
    (hn : n5 = l.length := by simp) (hx : xs = offsC l := by simp [offsC]) :
    WinAt (w5.setCell ⟨g, 1, none⟩ v5) g ⟨m.size, l⟩ ∧ Fr1 g w (w5.setCell ⟨g, 1, none⟩ v5) := by
  subst hn; subst hx
  have hw5 := hw.fr0 hf5
  obtain ⟨v, hb, hs⟩ := hw5
  have hf : Fr1 g w5 (w5.setCell ⟨g, 1, none⟩ v5) := (Fr.refl (fun k => k = g) w5).setCell (p := ⟨g, 1, none⟩) (fun _ => rfl) _
  refine ⟨⟨v5, by simpa using hb.set_ 1 v5, ?_⟩, (hf3.of0.trans hf5.of0).trans hf⟩
  exact (Sl.of_own ho).fr1 hf hb (by decide)
set_option maxHeartbeats 2000000 in
theorem offer_ok (g : Nat) (m : Win) (id : By 32) (n : Int) (w : World) (hw : WinAt w g m) (hl : m.l.length ≤ 10000) (hn : 0 ≤ n ∧ n ≤ 65536) (h : m.l.find? (hasId id) = none) (hb : (outs m.l).length < m.size) :
    Calls Try.prog 15 #[wptr g, idV id, .int .i64 n] w fun e w' => e = .returned (.int .i64 0) ∧ WinAt w' g ⟨m.size, m.l ++ [⟨id, n, 0⟩]⟩ ∧ Fr1 g w w' := by
  have hi := idx_neg _ _ h
  clear h
  obtain ⟨hn1, hn2⟩ := hn
  have hn0 : ¬ n < 0 := by omega
  have hn3 : ¬ 65536 < n := by omega
  have HW := Lib.hid hw
  have hg := hw.lt
  clear hw
  go_enter Try.func15, Try.ntmps15
  go_wp2_with fail
  refine (find_any g m id _ (HW.out.fr0 ((Fr.refl _ _).alloc _))).mono ?_
  rintro e w1 ⟨rfl, hf⟩
  rw [hi]
  have hf2 := ((Fr.refl _ w).alloc (.cells (bs id.1).toArray 37)).trans hf
  have HF := Lib.hid hf2
  have HW1 := Lib.hid (HW.out.fr0 hf2)
  have HB := Lib.hid ((Blk.new w 37 (bs id.1).toArray).fr hf (fun h => h))
  obtain ⟨v, hbk, hs⟩ := HW1.out
  have hc0 := hbk.cell 0
  simp at hc0
  have hg1 := hbk.lt
  clear hf hi hf2 hbk hs
  go_wp2_with fail
  go_region_held3 (fun w' => w'.cell? ⟨g, 0, none⟩ = some (.int .i64 m.size)) (assumption)
    (first | (go_at_call 14; refine (outstanding_any' g m _ (HW1.out.fr0 ((Fr.refl _ _).drew)) (by omega)).mono ?_
              rintro e w2 ⟨A, c, rfl, ho, hf⟩
              have hc2 : w2.cell? ⟨g, 0, none⟩ = some (.int .i64 m.size) := (hf.cell (p := ⟨g, 0, none⟩) hg1 (fun h => h)).trans hc0
              have HF2 := Lib.hid (Fr.trans (S := fun _ => False) ((Fr.refl _ _).drew) hf)
              clear hf ho))
  have HF3 := Lib.hid (HF.out.trans HF2.out)
  have HW3 := Lib.hid (HW1.out.fr0 HF2.out)
  have HB3 := Lib.hid (HB.out.fr HF2.out (fun h => h))
  obtain ⟨v3, hbk, hs⟩ := HW3.out
  have HS3 := Lib.hid hs
  have hc1 := hbk.cell 1
  have hf1 := hbk.frozen 1
  simp at hc1
  have hg3 := hbk.lt
  have hl3 := HB3.out.ldA 0 32 (by simp)
  have hq3 := HB3.out.lt
  clear hbk hs hc2
  go_wp2_with fail
  go_region_law (first
      | (refine step_app (w := w3) app_off (by rfl) _ _ (by rfl) (v := v4) (by rfl) HO4.out (by rfl) (m := 1) (news := offC ⟨id, n, 0⟩) HE.out (fun u hu => List.all_eq_true.1 (offC_one _) u hu) (by unfold maxLen; omega) (by omega) (by have := HF4.out.size; simp; omega) ?_
         intro v5 w5 ho5 hg5 hat5
         obtain ⟨A5, c5, rfl, _, _⟩ := own_form ho5
         have hf5 : Fr0 w2 w5 := Fr.app (w := w3) HF4.out hg5 (fun j hj hlt => by have := own_ge _ HO4.out j hj; omega)
         have HF5 := Lib.hid hf5
         have HO5 := Lib.hid ho5
         have hc5 : w5.cell? ⟨g, 1, none⟩ = some v3 := (hf5.cell (p := ⟨g, 1, none⟩) hg3 (fun h => h)).trans hc1
         have hz5 : w5.frozen? ⟨g, 1, none⟩ = false := (hf5.frozen (p := ⟨g, 1, none⟩) hg3 (fun h => h)).trans hf1
         clear ho5 hg5 hat5 hf5)
      | (refine step_app (w := w3.alloc _) app_off (by rfl) _ _ (by rfl) (v := v4) (by rfl) (HO4.out.alloc _) (by rfl) (m := 1) (news := offC ⟨id, n, 0⟩) (Sl.new _ _ _ _ _ (by simp) (by unfold maxLen; omega)) (fun u hu => List.all_eq_true.1 (offC_one _) u hu) (by unfold maxLen; omega) (by omega) (by have := HF4.out.size; simp; omega) ?_
         intro v5 w5 ho5 hg5 hat5
         obtain ⟨A5, c5, rfl, _, _⟩ := own_form ho5
         have hf5 : Fr0 w2 w5 := Fr.app (w := w3.alloc _) (HF4.out.alloc _) hg5 (fun j hj hlt => by have := own_ge _ HO4.out j hj; omega)
         have HF5 := Lib.hid hf5
         have HO5 := Lib.hid ho5
         have hc5 : w5.cell? ⟨g, 1, none⟩ = some v3 := (hf5.cell (p := ⟨g, 1, none⟩) hg3 (fun h => h)).trans hc1
         have hz5 : w5.frozen? ⟨g, 1, none⟩ = false := (hf5.frozen (p := ⟨g, 1, none⟩) hg3 (fun h => h)).trans hf1
         clear ho5 hg5 hat5 hf5)
      | (go_simp; go_at_call 38
         refine (clone_any m.l v3 _ (by first | exact HS3.out.drew | exact (HS3.out.drew).alloc _) (by omega)).mono ?_
         rintro e w3 ⟨v4, rfl, ho, hf⟩
         have hf' : Fr0 w2 w3 := Fr.trans (by first | exact (Fr.refl _ _).drew | exact ((Fr.refl _ _).drew).alloc _) hf
         have HF4 := Lib.hid hf'
         have HO4 : Hid (w3.ownsRow w2.heap.size 81 34 v4 m.l.length (offsC m.l)) := own_mono ho (by simp)
         have hc4 : w3.cell? ⟨g, 1, none⟩ = some v3 := (hf'.cell (p := ⟨g, 1, none⟩) hg3 (fun h => h)).trans hc1
         have hz4 : w3.frozen? ⟨g, 1, none⟩ = false := (hf'.frozen (p := ⟨g, 1, none⟩) hg3 (fun h => h)).trans hf1
         have hl4 : ldA w3 w.heap.size 0 32 = some ((bs id.1).toArray.extract 0 (0 + 32)) := (HB3.out.fr hf' (fun h => h)).ldA 0 32 (by simp)
         have hg4 : g < w3.heap.size := Nat.lt_of_lt_of_le hg3 hf'.size
         have hq4 : w.heap.size < w3.heap.size := Nat.lt_of_lt_of_le hq3 hf'.size
         try have HE := Lib.hid ((Sl.new w2.drew 81 34 1 (offC ⟨id, n, 0⟩) (by simp) (by unfold maxLen; omega)).fr0 hf)
         clear ho hf hf'))
  all_goals
    go_wp2_with fail
    go_ret
    exact ⟨rfl, win_store HF3.out HW3.out HF5.out HO5.out⟩

end Go.Proofs.Ytbcconeebjmjdaa
