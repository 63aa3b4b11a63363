/- Chapter 36, the window's own functions: contracts, part C: New, Len, Size, Outcome, Resize, Outstanding. No condition beyond the lengths that are named. -/
import Derived.Test.YtbcconeebjmjdaaWinB
namespace Go.Proofs.Ytbcconeebjmjdaa
open Go.RowKit

theorem valid_any (n : Int) (w : World) : Calls Try.prog 35 #[.int .i64 n] w fun e w' => e = .returned (.bool (decide (1 ≤ n ∧ n ≤ 64))) ∧ w = w' := by
  by_cases h : 1 ≤ n
  · by_cases h2 : n ≤ 64
    · go_enter Try.func35, Try.ntmps35
      go_wp2
      go_ret
      exact ⟨by simp [h, h2], rfl⟩
    · go_enter Try.func35, Try.ntmps35
      go_wp2
      go_ret
      exact ⟨by simp [h2], rfl⟩
  · go_enter Try.func35, Try.ntmps35
    go_wp2
    go_ret
    exact ⟨by simp; omega, rfl⟩

theorem new_yes (n : Int) (w : World) (h : 1 ≤ n ∧ n ≤ 64) : Calls Try.prog 12 #[.int .i64 n] w fun e w' => ∃ g, e = .returned (.tuple #[wptr g, .int .i64 0]) ∧ w.heap.size ≤ g ∧ WinAt w' g ⟨n, []⟩ ∧ Fr0 w w' := by
  have hb : decide (1 ≤ n ∧ n ≤ 64) = true := by simpa using h
  go_enter Try.func12, Try.ntmps12
  go_wp2_with fail
  refine (valid_any n _).mono ?_
  rintro e w1 ⟨rfl, rfl⟩
  rw [hb]
  clear hb
  go_wp2_with fail
  go_ret2
  exact ⟨w.heap.size, rfl, Nat.le_refl _, ⟨_, Blk.new _ _ _, (Sl.nil _ _ _)⟩, (Fr.refl _ _).alloc _⟩
theorem new_no (n : Int) (w : World) (h : ¬ (1 ≤ n ∧ n ≤ 64)) : Calls Try.prog 12 #[.int .i64 n] w fun e w' => e = .returned (.tuple #[.pointer none, .int .i64 2]) ∧ w = w' := by
  have hb : decide (1 ≤ n ∧ n ≤ 64) = false := by simpa using h
  go_enter Try.func12, Try.ntmps12
  go_wp2_with fail
  refine (valid_any n _).mono ?_
  rintro e w1 ⟨rfl, rfl⟩
  rw [hb]
  clear hb
  go_wp2_with fail
  go_ret2
  exact ⟨rfl, rfl⟩

theorem len_any (g : Nat) (m : Win) (w : World) (h : WinAt w g m) : Calls Try.prog 19 #[wptr g] w fun e w' => e = .returned (.int .i64 m.l.length) ∧ w = w' := by
  obtain ⟨v, hb, hs⟩ := h
  obtain ⟨A, c, rfl, _, _⟩ := hs.form
  have hc1 := hb.cell 1
  simp at hc1
  clear hb hs
  go_enter Try.func19, Try.ntmps19
  go_wp2_with fail
  go_ret
  exact ⟨rfl, rfl⟩
theorem len_nil (w : World) : Calls Try.prog 19 #[.pointer none] w fun e w' => e = .returned (.int .i64 0) ∧ w = w' := by
  go_enter Try.func19, Try.ntmps19
  go_wp2_with fail
  go_ret
  exact ⟨rfl, rfl⟩
theorem size_any (g : Nat) (m : Win) (w : World) (h : WinAt w g m) : Calls Try.prog 21 #[wptr g] w fun e w' => e = .returned (.int .i64 m.size) ∧ w = w' := by
  obtain ⟨v, hb, hs⟩ := h
  have hc0 := hb.cell 0
  simp at hc0
  clear hb hs
  go_enter Try.func21, Try.ntmps21
  go_wp2_with fail
  go_ret
  exact ⟨rfl, rfl⟩
theorem size_nil (w : World) : Calls Try.prog 21 #[.pointer none] w fun e w' => e = .returned (.int .i64 0) ∧ w = w' := by
  go_enter Try.func21, Try.ntmps21
  go_wp2_with fail
  go_ret
  exact ⟨rfl, rfl⟩

theorem resize_no (g : Nat) (n : Int) (w : World) (h : ¬ (1 ≤ n ∧ n ≤ 64)) : Calls Try.prog 20 #[wptr g, .int .i64 n] w fun e w' => e = .returned (.int .i64 2) ∧ w = w' := by
  have hb : decide (1 ≤ n ∧ n ≤ 64) = false := by simpa using h
  go_enter Try.func20, Try.ntmps20
  go_wp2_with fail
  refine (valid_any n _).mono ?_
  rintro e w1 ⟨rfl, rfl⟩
  rw [hb]
  clear hb
  go_wp2_with fail
  go_ret
  exact ⟨rfl, rfl⟩
theorem resize_nil (n : Int) (w : World) : Calls Try.prog 20 #[.pointer none, .int .i64 n] w fun e w' => e = .returned (.int .i64 1) ∧ w = w' := by
  go_enter Try.func20, Try.ntmps20
  go_wp2_with fail
  go_ret
  exact ⟨rfl, rfl⟩
theorem resize_yes (g : Nat) (m : Win) (n : Int) (w : World) (hw : WinAt w g m) (h : 1 ≤ n ∧ n ≤ 64) :
    Calls Try.prog 20 #[wptr g, .int .i64 n] w fun e w' => e = .returned (.int .i64 0) ∧ WinAt w' g ⟨n, m.l⟩ ∧ Fr1 g w w' := by
  have hbb : decide (1 ≤ n ∧ n ≤ 64) = true := by simpa using h
  have HW := Lib.hid hw
  obtain ⟨v, hb, hs⟩ := hw
  have hc0 := hb.cell 0
  have hf0 := hb.frozen 0
  simp at hc0
  clear hb hs
  go_enter Try.func20, Try.ntmps20
  go_wp2_with fail
  refine (valid_any n _).mono ?_
  rintro e w1 ⟨rfl, rfl⟩
  rw [hbb]
  clear hbb
  go_wp2_with fail
  go_ret
  obtain ⟨v, hb, hs⟩ := HW.out
  have hf : Fr1 g w (w.setCell ⟨g, 0, none⟩ (.int .i64 n)) := (Fr.refl (fun k => k = g) w).setCell (p := ⟨g, 0, none⟩) (fun _ => rfl) _
  exact ⟨rfl, ⟨v, by simpa using hb.set_ 0 (.int .i64 n), hs.fr1 hf hb (by decide)⟩, hf⟩

theorem outcome_nil (id : By 32) (w : World) : Calls Try.prog 28 #[.pointer none, idV id] w fun e w' => e = .returned (.tuple #[.int .i64 0, .bool false]) ∧ Fr0 w w' := by
  go_enter Try.func28, Try.ntmps28
  go_wp2_with fail
  refine (find_nil id _).mono ?_
  rintro e w1 ⟨rfl, hf⟩
  have HF := Lib.hid hf
  clear hf
  go_wp2_with fail
  go_ret2
  exact ⟨rfl, ((Fr.refl _ _).alloc _).trans HF.out⟩

theorem idx_neg (p : Off → Bool) (l : List Off) (h : l.find? p = none) : idx p l = -1 := by
  have : l.findIdx? p = none := by rw [List.findIdx?_eq_none_iff]; simpa using h
  simp [idx, this]
theorem idx_pos (p : Off → Bool) (l : List Off) (o : Off) (h : l.find? p = some o) : ∃ k, ∃ (hk : k < l.length), idx p l = (k : Int) ∧ l[k] = o ∧ p o = true ∧ ∀ j (hj : j < k), p (l[j]'(by omega)) = false := by
  cases hq : l.findIdx? p with
  | none => rw [List.findIdx?_eq_none_iff] at hq; have : l.find? p = none := List.find?_eq_none.2 (fun x hx => by simp [hq x hx]); rw [h] at this; cases this
  | some k =>
    have hk' := hq
    rw [List.findIdx?_eq_some_iff_getElem] at hk'
    obtain ⟨hk, hp, hlt⟩ := hk'
    refine ⟨k, hk, by simp [idx, hq], ?_, ?_, fun j hj => by simpa using hlt j hj⟩
    · have := List.find?_eq_some_iff_getElem.2 ⟨hp, k, hk, rfl, fun j hj => by simpa using hlt j hj⟩
      rw [h] at this; injection this with this; exact this.symm
    · have := List.find?_eq_some_iff_getElem.2 ⟨hp, k, hk, rfl, fun j hj => by simpa using hlt j hj⟩
      rw [h] at this; injection this with this; rw [this]; exact hp

theorem outcome_none (g : Nat) (m : Win) (id : By 32) (w : World) (hw : WinAt w g m) (h : m.l.find? (hasId id) = none) :
    Calls Try.prog 28 #[wptr g, idV id] w fun e w' => e = .returned (.tuple #[.int .i64 0, .bool false]) ∧ Fr0 w w' := by
  have hi := idx_neg _ _ h
  clear h
  go_enter Try.func28, Try.ntmps28
  go_wp2_with fail
  refine (find_any g m id _ (hw.fr0 ((Fr.refl _ _).alloc _))).mono ?_
  rintro e w1 ⟨rfl, hf⟩
  rw [hi]
  have HF := Lib.hid hf
  clear hf hi
  go_wp2_with fail
  go_ret2
  exact ⟨rfl, ((Fr.refl _ _).alloc _).trans HF.out⟩
theorem off_33 {w : World} {A : Option Addr} {c : Nat} {l : List Off} (hs : Sl w 81 34 (.slice A l.length c) l.length (offsC l)) (k : Nat) (hk : k < l.length) :
    ∃ b off, A = some ⟨b, off, none⟩ ∧ b < w.heap.size ∧ w.cell? ⟨b, off + k * 34 + 33, none⟩ = some (.int .i64 l[k].oc) := by
  obtain ⟨b, off, rfl, hb, hc⟩ := hs.at_ hk
  refine ⟨b, off, rfl, hb, ?_⟩
  rw [Nat.add_assoc]
  refine hc _ _ ?_
  have := congrArg (·[33]?) (offsC_cut l k hk)
  simp only [List.getElem?_take, List.getElem?_drop] at this
  rw [if_pos (by omega)] at this
  rw [this]
  simp
theorem outcome_some (g : Nat) (m : Win) (id : By 32) (o : Off) (w : World) (hw : WinAt w g m) (h : m.l.find? (hasId id) = some o) :
    Calls Try.prog 28 #[wptr g, idV id] w fun e w' => e = .returned (.tuple #[.int .i64 o.oc, .bool true]) ∧ Fr0 w w' := by
  obtain ⟨k, hk, hi, rfl, _, _⟩ := idx_pos _ _ _ h
  clear h
  go_enter Try.func28, Try.ntmps28
  go_wp2_with fail
  refine (find_any g m id _ (hw.fr0 ((Fr.refl _ _).alloc _))).mono ?_
  rintro e w1 ⟨rfl, hf⟩
  rw [hi]
  have hf2 := ((Fr.refl _ w).alloc (.cells (bs id.1).toArray 37)).trans hf
  have HF := Lib.hid hf2
  obtain ⟨v, hb, hs⟩ := hw.fr0 hf2
  obtain ⟨A, c, rfl, hlc, hcm⟩ := hs.form
  unfold maxLen at hcm
  have hc1 := hb.cell 1
  simp at hc1
  obtain ⟨b, off, rfl, hbs, h33⟩ := off_33 hs k hk
  clear hf hi hf2 hb hs hw
  go_wp2_with fail
  go_ret2
  exact ⟨rfl, HF.out⟩

def outs (l : List Off) : List (By 32) := (l.filter isOut).map (·.id)
theorem outs_snoc (l : List Off) (o : Off) : outs (l ++ [o]) = outs l ++ (if isOut o then [o.id] else []) := by
  cases h : isOut o <;> simp [outs, h]
def idsC (l : List (By 32)) : List Value := l.flatMap fun i => bs i.1
@[simp] theorem idsC_length (l : List (By 32)) : (idsC l).length = l.length * 32 := by
  induction l with
  | nil => rfl
  | cons o l ih => simp only [idsC, List.flatMap_cons, List.length_append, idC_length, List.length_cons] at ih ⊢; omega

theorem outstanding_list (g : Nat) (m : Win) (w : World) (hw : WinAt w g m) (hl : m.l.length ≤ 100000) :
    Calls Try.prog 14 #[wptr g] w fun e w' => ∃ v, e = .returned v ∧ w'.ownsRow w.heap.size 37 32 v (outs m.l).length (idsC (outs m.l)) ∧ Fr0 w w' := by
  obtain ⟨v, hb, hs⟩ := hw
  obtain ⟨A, c, rfl, hlc, hcm⟩ := hs.form
  unfold maxLen at hcm
  have hc1 := hb.cell 1
  simp at hc1
  have HS := Lib.hid hs
  clear hb hs
  go_enter Try.func14, Try.ntmps14
  go_wp2_with fail
  go_loopw [3, 13] (fun v i wr => ∃ k : Nat, k ≤ m.l.length ∧ i = .int .i64 k ∧ wr.ownsRow w.heap.size 37 32 v (outs (m.l.take k)).length (idsC (outs (m.l.take k))) ∧ Fr0 w wr) (fun _ i _ => m.l.length - (intOf i).toNat)
  case atStart => exact ⟨0, by omega, rfl, World.ownsRow_nil _ _ _ _, Fr.refl _ _⟩
  case round =>
    obtain ⟨k, hk, rfl, hown, hfr⟩ := hrel
    have HO := Lib.hid hown
    have HFR := Lib.hid hfr
    clear hown hfr
    by_cases hlt : k < m.l.length
    · obtain ⟨b, off, rfl, hbs, hld⟩ := (HS.out.fr0 HFR.out).ldA hlt (by omega)
      rw [offsC_cut m.l k hlt] at hld
      go_wp2_with fail
      refine (outstanding_any m.l[k] _).mono ?_
      rintro e w1 ⟨rfl, hf⟩
      have hf2 := HFR.out.trans (((Fr.refl _ _).alloc _).trans hf)
      have HF := Lib.hid hf
      have HF2 := Lib.hid hf2
      have HO1 := Lib.hid (own_fr0 (HO.out.alloc _) hf)
      have hl1 := ((Blk.new wr 81 (offC m.l[k]).toArray).fr hf (fun h => h)).ldA 0 32 (by simp)
      have hsz : wr.heap.size < w1.heap.size := by have := hf.size; simp at this; omega
      clear hf hf2 hld
      have htk : m.l.take (k + 1) = m.l.take k ++ [m.l[k]] := by rw [List.take_succ_eq_append_getElem hlt]
      cases hio : isOut m.l[k] with
      | true =>
        have HN := Lib.hid (show outs (m.l.take (k + 1)) = outs (m.l.take k) ++ [m.l[k].id] by rw [htk, outs_snoc, hio]; rfl)
        have hlen : (outs (m.l.take k)).length ≤ k := by
          have h1 := List.length_filter_le isOut (m.l.take k)
          have h2 := List.length_take_le k m.l
          simp only [outs, List.length_map]; omega
        obtain ⟨v', w2, hrun, hown2, hgr2, hat2⟩ := run_app (w1.alloc (.cells (bs m.l[k].id.1).toArray 37)) app_id 33 (HO1.out.alloc _) (Sl.new w1 37 32 1 (bs m.l[k].id.1) (by simp) (by unfold maxLen; omega)) (fun u hu => List.all_eq_true.1 (idC_one m.l[k].id) u hu) (by unfold maxLen; omega) (by omega) (by have := HF2.out.size; simp; omega)
        have HO2 := Lib.hid hown2
        have HG := Lib.hid hgr2
        clear hown2 hgr2 hat2 htk hio
        go_wp2_with fail
        go_roundw
        case rel =>
          refine ⟨k + 1, by omega, by go_num, ?_, Fr.app (HF2.out.alloc _) HG.out (fun j hj hlt => ?_)⟩
          · rw [HN.out]; simpa [idsC] using HO2.out
          · have := own_ge _ HO1.out j hj; omega
        case measure => simp [intOf]; omega
      | false =>
        have HN := Lib.hid (show outs (m.l.take (k + 1)) = outs (m.l.take k) by rw [htk, outs_snoc, hio]; simp)
        clear htk hio
        go_wp2_with fail
        go_roundw
        case rel => exact ⟨k + 1, by omega, by go_num, by rw [HN.out]; exact HO1.out, HF2.out⟩
        case measure => simp [intOf]; omega
    · go_wp2_with fail
      go_ret
      have : m.l.take k = m.l := List.take_of_length_le (by omega)
      have ho := HO.out
      rw [this] at ho
      exact ⟨_, rfl, ho, HFR.out⟩

theorem outstanding_any' (g : Nat) (m : Win) (w : World) (hw : WinAt w g m) (hl : m.l.length ≤ 100000) :
    Calls Try.prog 14 #[wptr g] w fun e w' => ∃ A c, e = .returned (.slice A (outs m.l).length c) ∧ w'.ownsRow w.heap.size 37 32 (.slice A (outs m.l).length c) (outs m.l).length (idsC (outs m.l)) ∧ Fr0 w w' :=
  (outstanding_list g m w hw hl).mono fun _ _ ⟨_, he, ho, hf⟩ => by
    obtain ⟨A, c, rfl, _, _⟩ := own_form ho
    exact ⟨A, c, he, ho, hf⟩
theorem outstanding_nil (w : World) : Calls Try.prog 14 #[.pointer none] w fun e w' => e = .returned (.slice none 0 0) ∧ w = w' := by
  go_enter Try.func14, Try.ntmps14
  go_wp2_with fail
  go_ret
  exact ⟨rfl, rfl⟩

end Go.Proofs.Ytbcconeebjmjdaa
