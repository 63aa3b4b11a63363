/- Chapter 36, the window's own functions: contracts, part H: Drop, Clone, Equal. No condition beyond the lengths that are named. -/
import Derived.Test.YtbcconeebjmjdaaWinG
namespace Go.Proofs.Ytbcconeebjmjdaa
open Go.RowKit
attribute [local go_sem ↓] Go.wp_at_zero Go.wp_at_succ

theorem drop_nil (w : World) : Calls Try.prog 25 #[.pointer none] w fun e w' => e = .returned (.slice none 0 0) ∧ w = w' := by
  go_enter Try.func25, Try.ntmps25
  go_wp2_with fail
  go_ret
  exact ⟨rfl, rfl⟩

theorem delete_nil (_ : Nat) (w : World) : Calls Try.prog 41 #[.slice none 0 0, .func (.func 37) #[] #[]] w fun e w' => e = .returned (.slice none 0 0) ∧ Fr0 w w' := by
  go_enter Try.func41, Try.ntmps41
  go_wp2_with fail
  refine (indexFunc_any _ #[] isOut [] _ _ (fun o w1 hf => ?_) cf_outstanding (Sl.nil _ _ _)).mono ?_
  · exact outstanding_any o w1
  rintro e w1 ⟨rfl, hf⟩
  have HF := Lib.hid hf
  have hi : idx isOut [] = -1 := rfl
  rw [hi]
  clear hf hi
  go_wp2_with fail
  go_ret
  exact ⟨rfl, HF.out⟩

theorem win_store2 {w w5 : World} {g : Nat} {size : Int} {l : List Off} {v v5 : Value} (hb : Blk w5 g 78 #[.int .i64 size, v]) (hf : Fr0 w w5) (hs : Sl w5 81 34 v5 l.length (offsC l)) :
    WinAt (w5.setCell ⟨g, 1, none⟩ v5) g ⟨size, l⟩ ∧ Fr1 g w (w5.setCell ⟨g, 1, none⟩ v5) := by
  have hf1 : Fr1 g w5 (w5.setCell ⟨g, 1, none⟩ v5) := (Fr.refl (fun k => k = g) w5).setCell (p := ⟨g, 1, none⟩) (fun _ => rfl) _
  exact ⟨⟨v5, by simpa using hb.set_ 1 v5, hs.fr1 hf1 hb (by decide)⟩, hf.of0.trans hf1⟩

theorem drop_any (g : Nat) (m : Win) (w : World) (hw : WinAt w g m) (hl : m.l.length ≤ 10000) :
    Calls Try.prog 25 #[wptr g] w fun e w' => ∃ v, e = .returned v ∧ w'.ownsRow w.heap.size 37 32 v (outs m.l).length (idsC (outs m.l)) ∧ WinAt w' g ⟨m.size, m.l.filter notOut⟩ ∧ Fr1 g w w' := by
  have hg := hw.lt
  have HW := Lib.hid hw
  clear hw
  go_enter Try.func25, Try.ntmps25
  go_wp2_with fail
  refine (outstanding_any' g m _ HW.out (by omega)).mono ?_
  rintro e w1 ⟨A1, c1, rfl, ho1, hf⟩
  have HF1 := Lib.hid hf
  have HO1 := Lib.hid ho1
  have HW1 := Lib.hid (HW.out.fr0 hf)
  obtain ⟨v, hb, hs⟩ := HW1.out
  have HB1 := Lib.hid hb
  have HS1 := Lib.hid hs
  have hc1 := hb.cell 1
  have hf1 := hb.frozen 1
  simp at hc1
  have hg1 := hb.lt
  clear hf ho1 hb hs
  go_wp2_with fail
  refine (clone_any m.l v _ HS1.out (by omega)).mono ?_
  rintro e w3 ⟨v4, rfl, ho, hf⟩
  have HF3 := Lib.hid hf
  have HO3 := Lib.hid (own_fr0 HO1.out hf)
  have HB3 := Lib.hid (HB1.out.fr hf (fun h => h))
  clear hf hc1 hf1
  have hcase : (v4 = .slice none 0 0 ∧ m.l = []) ∨ ∃ gb cap, v4 = .slice (some ⟨gb, 0, none⟩) m.l.length cap ∧ w1.heap.size ≤ gb := by
    rcases ho.2 with ⟨h1, h2⟩ | ⟨gb, cap, cur, h1, h2, _⟩
    · exact .inl ⟨h1, List.eq_nil_of_length_eq_zero h2⟩
    · exact .inr ⟨gb, cap, h1, h2⟩
  rcases hcase with ⟨hv4, hnil⟩ | ⟨gb, cap, hv4, hgb⟩
  · rw [hv4]
    clear ho hv4
    have HN := Lib.hid hnil
    clear hnil
    go_wp2_with fail
    refine (delete_nil 0 _).mono ?_
    rintro e w5 ⟨rfl, hf⟩
    have HF5 := Lib.hid hf
    have HB5 := Lib.hid (HB3.out.fr hf (fun h => h))
    have hc5 := HB5.out.cell 1
    have hf5 := HB5.out.frozen 1
    simp at hc5
    clear hf
    go_wp2_with fail
    go_ret
    have hws := win_store2 (l := m.l.filter notOut) HB5.out (HF1.out.trans (HF3.out.trans HF5.out)) (v5 := .slice none 0 0) (by rw [HN.out]; exact Sl.nil _ _ _)
    exact ⟨_, rfl, own_fr (S := fun k => k = g) (own_fr0 HO3.out HF5.out) ((Fr.refl (fun k => k = g) w5).setCell (p := ⟨g, 1, none⟩) (fun _ => rfl) _) (fun j hj hjg => by have := own_ge _ HO1.out j hj; omega), hws.1, hws.2⟩
  · rw [hv4] at ho ⊢
    have HO := Lib.hid ho
    clear ho hv4
    go_wp2_with fail
    refine (delete_any m.l gb cap _ _ HO.out (by omega)).mono ?_
    rintro e w5 ⟨rfl, hs, hf⟩
    have HF5 := Lib.hid hf
    have HS5 := Lib.hid hs
    have HB5 := Lib.hid (HB3.out.fr hf (show ¬ g = gb by omega))
    have hc5 := HB5.out.cell 1
    have hf5 := HB5.out.frozen 1
    simp at hc5
    clear hf hs
    go_wp2_with fail
    go_ret
    have hf0 : Fr0 w w5 := (HF1.out.trans HF3.out).then_ HF5.out (fun i hi hig => by have := HF1.out.size; omega)
    have hws := win_store2 (l := m.l.filter notOut) HB5.out hf0 HS5.out
    refine ⟨_, rfl, own_fr (S := fun k => k = g) (own_fr (S := fun k => k = gb) HO3.out HF5.out (fun j hj hjg => ?_)) ((Fr.refl (fun k => k = g) w5).setCell (p := ⟨g, 1, none⟩) (fun _ => rfl) _) (fun j hj hjg => by have := own_ge _ HO1.out j hj; omega), hws.1, hws.2⟩
    have := (HO1.out.lt j hj).2; omega


theorem wclone_nil (w : World) : Calls Try.prog 29 #[.pointer none] w fun e w' => e = .returned (.pointer none) ∧ w = w' := by
  go_enter Try.func29, Try.ntmps29
  go_wp2_with fail
  go_ret
  exact ⟨rfl, rfl⟩

theorem wclone_any (g : Nat) (m : Win) (w : World) (hw : WinAt w g m) (hl : m.l.length ≤ 10000) :
    Calls Try.prog 29 #[wptr g] w fun e w' => ∃ g', e = .returned (wptr g') ∧ w.heap.size ≤ g' ∧ WinAt w' g' m ∧ Fr0 w w' := by
  obtain ⟨v, hb, hs⟩ := hw
  have HS := Lib.hid hs
  have hc0 := hb.cell 0
  have hc1 := hb.cell 1
  simp at hc0 hc1
  have hg := hb.lt
  clear hb hs
  go_enter Try.func29, Try.ntmps29
  go_wp2_with fail
  go_region_held3 (fun w' => w'.cell? ⟨g, 0, none⟩ = some (.int .i64 m.size) ∧ w'.cell? ⟨g, 1, none⟩ = some v) (first | (refine ⟨?_, ?_⟩ <;> assumption) | exact ⟨cell_alloc (by assumption) _, cell_alloc (by assumption) _⟩)
    (first | (go_at_call 38; refine (clone_any m.l v _ HS.out.drew (by omega)).mono ?_
              rintro e w' ⟨v4, rfl, ho, hf⟩
              obtain ⟨A4, c4, rfl, _, _⟩ := own_form ho
              have hc2 : w'.cell? ⟨g, 0, none⟩ = some (.int .i64 m.size) := (hf.cell (p := ⟨g, 0, none⟩) hg (fun h => h)).trans hc0
              have hc3 : w'.cell? ⟨g, 1, none⟩ = some v := (hf.cell (p := ⟨g, 1, none⟩) hg (fun h => h)).trans hc1
              have HF := Lib.hid (Fr.trans (S := fun _ => False) (Fr.refl _ _).drew hf)
              have HO := Lib.hid ho
              clear ho hf))
  go_wp2_with fail
  go_ret
  exact ⟨_, rfl, HF.out.size, ⟨_, Blk.new _ _ _, (Sl.of_own HO.out).alloc _⟩, HF.out.alloc _⟩

/-- slices.Equal on offers. -/
theorem sequal_any (l k : List Off) (v u : Value) (w : World) (hs : Sl w 81 34 v l.length (offsC l)) (ht : Sl w 81 34 u k.length (offsC k)) :
    Calls Try.prog 42 #[v, u] w fun e w' => e = .returned (.bool (decide (l = k))) ∧ Fr0 w w' := by
  obtain ⟨A, c, rfl, hlc, hcm⟩ := hs.form
  obtain ⟨B, d, rfl, hkd, hdm⟩ := ht.form
  unfold maxLen at hcm hdm
  have HS := Lib.hid hs
  have HT := Lib.hid ht
  clear hs ht
  by_cases hne : l.length = k.length
  · have hbe : ((l.length : Int) != (k.length : Int)) = false := by simp [hne]
    have HNE := Lib.hid hne
    clear hne
    go_enter Try.func42, Try.ntmps42
    go_wp2_with fail
    go_loopw [13] (fun iv wr => ∃ i : Nat, i ≤ l.length ∧ iv = .int .i64 i ∧ l.take i = k.take i ∧ Fr0 w wr) (fun i _ => l.length - (intOf i).toNat)
    case atStart => exact ⟨0, by omega, rfl, rfl, Fr.refl _ _⟩
    case round =>
      obtain ⟨i, hi, rfl, htk, hfr⟩ := hrel
      have HTK := Lib.hid htk
      have HFR := Lib.hid hfr
      clear htk hfr
      by_cases hlt : i < l.length
      · have hlt' : i < k.length := by have := HNE.out; omega
        obtain ⟨b, off, rfl, hbs, hld⟩ := (HS.out.fr0 HFR.out).ldA hlt (by omega)
        obtain ⟨b', off', rfl, hbs', hld'⟩ := (HT.out.fr0 HFR.out).ldA hlt' (by omega)
        rw [offsC_cut l i hlt] at hld
        rw [offsC_cut k i hlt'] at hld'
        have hib : (0 : Int) ≤ (i : Int) := by omega
        have hil : (i : Int) < (l.length : Int) := by omega
        have hik : (i : Int) < (k.length : Int) := by omega
        by_cases hlk : l[i] = k[i]
        · have HLK := Lib.hid hlk
          have hd : decide (l[i] = k[i]) = true := by simpa using hlk
          clear hlk
          go_wp2_with fail
          go_quiet (fail)
          go_wp2_with fail
          go_roundw
          case rel => exact ⟨i + 1, by omega, by go_num, by rw [List.take_succ_eq_append_getElem hlt, List.take_succ_eq_append_getElem hlt', HTK.out, HLK.out], HFR.out.drewN _⟩
          case measure => simp [intOf]; omega
        · have HLK := Lib.hid hlk
          have hd : decide (l[i] = k[i]) = false := by simpa using hlk
          clear hlk
          go_wp2_with fail
          go_quiet (fail)
          go_wp2_with fail
          go_ret
          refine ⟨ret_bool ?_, HFR.out.drewN _⟩
          have : l ≠ k := by rintro rfl; exact HLK.out rfl
          simp [this]
      · go_wp2_with fail
        go_ret
        refine ⟨ret_bool ?_, HFR.out⟩
        have h1 := HTK.out
        have h2 := HNE.out
        rw [List.take_of_length_le (by omega), List.take_of_length_le (by omega)] at h1
        simp [h1]
  · have hbe : ((l.length : Int) != (k.length : Int)) = true := by simp; omega
    have hd : decide (l = k) = false := by simp; rintro rfl; exact hne rfl
    rw [hd]
    clear hne hd
    go_enter Try.func42, Try.ntmps42
    go_wp2_with fail
    go_ret
    exact ⟨rfl, Fr.refl _ _⟩

theorem equal_nil_nil (w : World) : Calls Try.prog 32 #[.pointer none, .pointer none] w fun e w' => e = .returned (.bool true) ∧ w = w' := by
  go_enter Try.func32, Try.ntmps32
  go_wp2_with fail
  go_ret
  exact ⟨rfl, rfl⟩
theorem equal_nil_left (g : Nat) (w : World) : Calls Try.prog 32 #[.pointer none, wptr g] w fun e w' => e = .returned (.bool false) ∧ w = w' := by
  go_enter Try.func32, Try.ntmps32
  go_wp2_with fail
  go_ret
  exact ⟨rfl, rfl⟩
theorem equal_nil_right (g : Nat) (w : World) : Calls Try.prog 32 #[wptr g, .pointer none] w fun e w' => e = .returned (.bool false) ∧ w = w' := by
  go_enter Try.func32, Try.ntmps32
  go_wp2_with fail
  go_ret
  exact ⟨rfl, rfl⟩

theorem equal_any (g g' : Nat) (m m' : Win) (w : World) (hw : WinAt w g m) (hw' : WinAt w g' m') :
    Calls Try.prog 32 #[wptr g, wptr g'] w fun e w' => e = .returned (.bool (decide (m.size = m'.size ∧ m.l = m'.l))) ∧ Fr0 w w' := by
  obtain ⟨v, hb, hs⟩ := hw
  obtain ⟨v', hb', hs'⟩ := hw'
  have HS := Lib.hid hs
  have HS' := Lib.hid hs'
  have hc0 := hb.cell 0
  have hc1 := hb.cell 1
  have hd0 := hb'.cell 0
  have hd1 := hb'.cell 1
  simp at hc0 hc1 hd0 hd1
  have hg := hb.lt
  have hg' := hb'.lt
  clear hb hs hb' hs'
  by_cases hsz : m.size = m'.size
  · have HZ := Lib.hid hsz
    have hbe : (m.size == m'.size) = true := by simpa using hsz
    clear hsz
    go_enter Try.func32, Try.ntmps32
    go_wp2_with fail
    go_region_held3 (fun w' => w'.cell? ⟨g, 0, none⟩ = some (.int .i64 m.size) ∧ w'.cell? ⟨g, 1, none⟩ = some v ∧ w'.cell? ⟨g', 0, none⟩ = some (.int .i64 m'.size) ∧ w'.cell? ⟨g', 1, none⟩ = some v') (refine ⟨?_, ?_, ?_, ?_⟩ <;> assumption)
      (first | (go_at_call 42; refine (sequal_any m.l m'.l v v' _ HS.out.drew HS'.out.drew).mono ?_
                rintro e w' ⟨rfl, hf⟩
                have hc2 : w'.cell? ⟨g, 0, none⟩ = some (.int .i64 m.size) := (hf.cell (p := ⟨g, 0, none⟩) hg (fun h => h)).trans hc0
                have hc3 : w'.cell? ⟨g, 1, none⟩ = some v := (hf.cell (p := ⟨g, 1, none⟩) hg (fun h => h)).trans hc1
                have hc4 : w'.cell? ⟨g', 0, none⟩ = some (.int .i64 m'.size) := (hf.cell (p := ⟨g', 0, none⟩) hg' (fun h => h)).trans hd0
                have hc5 : w'.cell? ⟨g', 1, none⟩ = some v' := (hf.cell (p := ⟨g', 1, none⟩) hg' (fun h => h)).trans hd1
                have HF := Lib.hid (Fr.trans (S := fun _ => False) (Fr.refl _ _).drew hf)
                clear hf))
    go_wp2_with fail
    go_ret
    exact ⟨ret_bool (by simp [HZ.out]), HF.out⟩
  · have HZ := Lib.hid hsz
    have hbe : (m.size == m'.size) = false := by simpa using hsz
    clear hsz
    go_enter Try.func32, Try.ntmps32
    go_wp2_with fail
    go_quiet (fail)
    go_wp2_with fail
    go_ret
    exact ⟨ret_bool (by simp [HZ.out]), (Fr.refl _ _).drewN _⟩

end Go.Proofs.Ytbcconeebjmjdaa
