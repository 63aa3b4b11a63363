/- Chapter 36, the window's own functions: contracts, part F: Settled. No condition beyond the lengths that are named. -/
import Derived.Test.YtbcconeebjmjdaaWinE
import Derived.Test.YtbcconeebjmjdaaAggB
namespace Go.Proofs.Ytbcconeebjmjdaa
open Go.RowKit
attribute [local go_sem ↓] Go.wp_at_zero Go.wp_at_succ

/-- How many offers stand before the first outstanding one. -/
def nset (l : List Off) : Nat := (l.findIdx? isOut).getD l.length
theorem nset_le (l : List Off) : nset l ≤ l.length := by
  unfold nset
  cases h : l.findIdx? isOut with
  | none => simp
  | some k => have := (List.findIdx?_eq_some_iff_getElem.1 h).1; simp; omega
def resOf (o : Off) : Res := ⟨o.id, o.oc⟩
def ressC (l : List Res) : List Value := l.flatMap resC
@[simp] theorem ressC_length (l : List Res) : (ressC l).length = l.length * 33 := by
  induction l with
  | nil => rfl
  | cons o l ih => simp only [ressC, List.flatMap_cons, List.length_append, resC_length, List.length_cons] at ih ⊢; omega
theorem offsC_take (l : List Off) (k : Nat) : (offsC l).take (k * 34) = offsC (l.take k) := by
  induction l generalizing k with
  | nil => simp [offsC]
  | cons o l ih =>
    cases k with
    | zero => simp [offsC]
    | succ k =>
      have := ih k
      simp only [offsC, List.flatMap_cons, List.take_succ_cons] at this ⊢
      rw [List.take_append, ← this, List.take_of_length_le (by simp; omega)]
      simp only [offC_length, show (k + 1) * 34 - 34 = k * 34 by omega]
theorem offsC_drop (l : List Off) (k : Nat) : (offsC l).drop (k * 34) = offsC (l.drop k) := by
  induction l generalizing k with
  | nil => simp [offsC]
  | cons o l ih =>
    cases k with
    | zero => simp [offsC]
    | succ k =>
      have := ih k
      simp only [offsC, List.flatMap_cons, List.drop_succ_cons] at this ⊢
      rw [List.drop_append, ← this, List.drop_of_length_le (by simp; omega)]
      simp only [offC_length, show (k + 1) * 34 - 34 = k * 34 by omega, List.nil_append]

theorem settled_nil (w : World) : Calls Try.prog 13 #[.pointer none] w fun e w' => e = .returned (.slice none 0 0) ∧ w = w' := by
  go_enter Try.func13, Try.ntmps13
  go_wp2_with fail
  go_ret
  exact ⟨rfl, rfl⟩

theorem settled_any (g : Nat) (m : Win) (w : World) (hw : WinAt w g m) (hl : m.l.length ≤ 10000) :
    Calls Try.prog 13 #[wptr g] w fun e w' => ∃ v, e = .returned v ∧ w'.ownsRow w.heap.size 43 33 v (nset m.l) (ressC ((m.l.take (nset m.l)).map resOf)) ∧ WinAt w' g ⟨m.size, m.l.drop (nset m.l)⟩ ∧ Fr1 g w w' := by
  have hnl := nset_le m.l
  obtain ⟨v, hb, hs⟩ := hw
  obtain ⟨A, c, rfl, hlc, hcm⟩ := hs.form
  unfold maxLen at hcm
  have hc1 := hb.cell 1
  have hf1 := hb.frozen 1
  simp at hc1
  have hg := hb.lt
  have HS := Lib.hid hs
  have HB := Lib.hid hb
  clear hb hs
  have hidx : idx isOut m.l = -1 ∧ nset m.l = m.l.length ∨ idx isOut m.l = (nset m.l : Int) ∧ nset m.l < m.l.length := by
    unfold idx nset
    cases h : m.l.findIdx? isOut with
    | none => simp
    | some k => have := (List.findIdx?_eq_some_iff_getElem.1 h).1; simp; omega
  go_enter Try.func13, Try.ntmps13
  go_wp2_with fail
  refine (indexFunc_any _ #[] isOut m.l _ _ (fun o w1 hf => ?_) cf_outstanding HS.out).mono ?_
  · exact outstanding_any o w1
  rintro e w1 ⟨rfl, hf⟩
  have HF := Lib.hid hf
  have hc2 := (hf.cell (p := ⟨g, 1, none⟩) hg (fun h => h)).trans hc1
  have hf2 := (hf.frozen (p := ⟨g, 1, none⟩) hg (fun h => h)).trans hf1
  have HS1 := Lib.hid (HS.out.fr0 hf)
  have HB1 := Lib.hid (HB.out.fr hf (fun h => h))
  have hg1 : g < w1.heap.size := Nat.lt_of_lt_of_le hg hf.size
  clear hf hc1 hf1
  rcases hidx with ⟨hi, hn⟩ | ⟨hi, hn⟩
  · rw [hi]
    clear hi
    go_wp2_with fail
    go_loopw [4, 28] (fun v i wr => ∃ k : Nat, k ≤ m.l.length ∧ i = .int .i64 k ∧ wr.ownsRow w1.heap.size 43 33 v k (ressC ((m.l.take k).map resOf)) ∧ Fr0 w1 wr) (fun _ i _ => m.l.length - (intOf i).toNat)
    case atStart => exact ⟨0, by omega, rfl, World.ownsRow_nil _ _ _ _, Fr.refl _ _⟩
    case round =>
      obtain ⟨k, hk, rfl, hown, hfr⟩ := hrel
      have HO := Lib.hid hown
      have HFR := Lib.hid hfr
      clear hown hfr
      by_cases hlt : k < m.l.length
      · have hlt' : k < m.l.length := by omega
        obtain ⟨b, off, rfl, hbs, hld⟩ := (HS1.out.fr0 HFR.out).ldA hlt' (by omega)
        rw [offsC_cut m.l k hlt'] at hld
        have hso := HF.out.size
        have hsr := HFR.out.size
        obtain ⟨v', w2, hrun, hown2, hgr2, hat2⟩ := run_app ((wr.alloc (.cells (offC m.l[k]).toArray 81)).alloc (.cells (resC (resOf m.l[k])).toArray 43)) app_res 30 ((HO.out.alloc _).alloc _) (Sl.new _ 43 33 1 (resC (resOf m.l[k])) (by simp) (by unfold maxLen; omega)) (fun u hu => List.all_eq_true.1 (resC_one (resOf m.l[k])) u hu) (by unfold maxLen; omega) (by omega) (by simp; omega)
        simp only [World.size_alloc] at hrun
        unfold resOf at hrun
        have HO2 := Lib.hid hown2
        have HG := Lib.hid hgr2
        clear hown2 hgr2 hat2
        go_wp2_with fail
        go_roundw
        case rel =>
          refine ⟨k + 1, by omega, by go_num, ?_, Fr.app ((HFR.out.alloc _).alloc _) HG.out (fun j hj hlt => ?_)⟩
          · have htk : m.l.take (k + 1) = m.l.take k ++ [m.l[k]] := by rw [List.take_succ_eq_append_getElem hlt']
            rw [htk, List.map_append]
            simpa [ressC] using HO2.out
          · have := own_ge _ HO.out j hj; omega
        case measure => simp [intOf]; omega
      · have hkn : k = m.l.length := by omega
        subst hkn
        have hc3 := (HFR.out.cell (p := ⟨g, 1, none⟩) hg1 (fun h => h)).trans hc2
        have hf3 := (HFR.out.frozen (p := ⟨g, 1, none⟩) hg1 (fun h => h)).trans hf2
        have hgr : g < wr.heap.size := Nat.lt_of_lt_of_le hg1 HFR.out.size
        clear hc2 hf2
        by_cases hcn : c = m.l.length
        all_goals
          go_wp2_with fail
          refine (clone_any (m.l.drop (nset m.l)) _ _ ?hsl (by simp; omega)).mono ?_
          case hsl =>
            rw [hn, List.drop_length]
            exact ⟨rfl, _, _, rfl, Nat.zero_le _, by unfold maxLen; omega, fun h => absurd h (by simp)⟩
          rintro e w4 ⟨v4, rfl, ho, hf⟩
          obtain ⟨A4, c4, rfl, _, _⟩ := own_form ho
          have HO4 := Lib.hid ho
          have HF4 := Lib.hid hf
          have hc5 := (hf.cell (p := ⟨g, 1, none⟩) hgr (fun h => h)).trans hc3
          have hf5 := (hf.frozen (p := ⟨g, 1, none⟩) hgr (fun h => h)).trans hf3
          clear ho hf hc3 hf3
          go_wp2_with fail
          go_ret
          have ho4 := HO4.out
          rw [List.length_drop, hn, Nat.sub_self] at ho4
          refine ⟨_, rfl, ?_, win_store (HF.out.trans HFR.out) ⟨_, HB1.out.fr HFR.out (fun h => h), HS1.out.fr0 HFR.out⟩ HF4.out ho4 (by simp [hn]) (by rw [hn])⟩
          have h1 := own_fr0 HO.out HF4.out
          rw [← hn] at h1
          exact own_mono (own_fr (S := fun k => k = g) h1 ((Fr.refl (fun k => k = g) w4).setCell (p := ⟨g, 1, none⟩) (fun _ => rfl) _) (fun j hj hjg => by have := own_ge _ HO.out j hj; omega)) HF.out.size
  · rw [hi]
    clear hi
    go_wp2_with fail
    go_loopw [4, 28] (fun v i wr => ∃ k : Nat, k ≤ (nset m.l) ∧ i = .int .i64 k ∧ wr.ownsRow w1.heap.size 43 33 v k (ressC ((m.l.take k).map resOf)) ∧ Fr0 w1 wr) (fun _ i _ => (nset m.l) - (intOf i).toNat)
    case atStart => exact ⟨0, by omega, rfl, World.ownsRow_nil _ _ _ _, Fr.refl _ _⟩
    case round =>
      obtain ⟨k, hk, rfl, hown, hfr⟩ := hrel
      have HO := Lib.hid hown
      have HFR := Lib.hid hfr
      clear hown hfr
      by_cases hlt : k < (nset m.l)
      · have hlt' : k < m.l.length := by omega
        obtain ⟨b, off, rfl, hbs, hld⟩ := (HS1.out.fr0 HFR.out).ldA hlt' (by omega)
        rw [offsC_cut m.l k hlt'] at hld
        have hso := HF.out.size
        have hsr := HFR.out.size
        obtain ⟨v', w2, hrun, hown2, hgr2, hat2⟩ := run_app ((wr.alloc (.cells (offC m.l[k]).toArray 81)).alloc (.cells (resC (resOf m.l[k])).toArray 43)) app_res 30 ((HO.out.alloc _).alloc _) (Sl.new _ 43 33 1 (resC (resOf m.l[k])) (by simp) (by unfold maxLen; omega)) (fun u hu => List.all_eq_true.1 (resC_one (resOf m.l[k])) u hu) (by unfold maxLen; omega) (by omega) (by simp; omega)
        simp only [World.size_alloc] at hrun
        unfold resOf at hrun
        have HO2 := Lib.hid hown2
        have HG := Lib.hid hgr2
        clear hown2 hgr2 hat2
        go_wp2_with fail
        go_roundw
        case rel =>
          refine ⟨k + 1, by omega, by go_num, ?_, Fr.app ((HFR.out.alloc _).alloc _) HG.out (fun j hj hlt => ?_)⟩
          · have htk : m.l.take (k + 1) = m.l.take k ++ [m.l[k]] := by rw [List.take_succ_eq_append_getElem hlt']
            rw [htk, List.map_append]
            simpa [ressC] using HO2.out
          · have := own_ge _ HO.out j hj; omega
        case measure => simp [intOf]; omega
      · have hkn : k = (nset m.l) := by omega
        subst hkn
        have hc3 := (HFR.out.cell (p := ⟨g, 1, none⟩) hg1 (fun h => h)).trans hc2
        have hf3 := (HFR.out.frozen (p := ⟨g, 1, none⟩) hg1 (fun h => h)).trans hf2
        have hgr : g < wr.heap.size := Nat.lt_of_lt_of_le hg1 HFR.out.size
        clear hc2 hf2
        have hcn : ¬ c = nset m.l := by omega
        all_goals
          go_wp2_with fail
          refine (clone_any (m.l.drop (nset m.l)) _ _ ?hsl (by simp; omega)).mono ?_
          case hsl =>
            have hcut := (HS1.out.fr0 HFR.out).cutBack hnl
            rw [if_neg hcn, offsC_drop] at hcut
            simpa using hcut
          rintro e w4 ⟨v4, rfl, ho, hf⟩
          obtain ⟨A4, c4, rfl, _, _⟩ := own_form ho
          have HO4 := Lib.hid ho
          have HF4 := Lib.hid hf
          have hc5 := (hf.cell (p := ⟨g, 1, none⟩) hgr (fun h => h)).trans hc3
          have hf5 := (hf.frozen (p := ⟨g, 1, none⟩) hgr (fun h => h)).trans hf3
          clear ho hf hc3 hf3
          go_wp2_with fail
          go_ret
          have ho4 := HO4.out
          rw [List.length_drop] at ho4
          refine ⟨_, rfl, ?_, win_store (HF.out.trans HFR.out) ⟨_, HB1.out.fr HFR.out (fun h => h), HS1.out.fr0 HFR.out⟩ HF4.out ho4 (by simp) rfl⟩
          have h1 := own_fr0 HO.out HF4.out
          skip
          exact own_mono (own_fr (S := fun k => k = g) h1 ((Fr.refl (fun k => k = g) w4).setCell (p := ⟨g, 1, none⟩) (fun _ => rfl) _) (fun j hj hjg => by have := own_ge _ HO.out j hj; omega)) HF.out.size

end Go.Proofs.Ytbcconeebjmjdaa
