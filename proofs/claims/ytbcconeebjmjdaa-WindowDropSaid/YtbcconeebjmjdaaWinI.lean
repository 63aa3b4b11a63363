/- Chapter 36, the law's own helpers: results, ids, known. No condition beyond the lengths that are named. -/
import Derived.Test.YtbcconeebjmjdaaWinH
namespace Go.Proofs.Ytbcconeebjmjdaa
open Go.RowKit
attribute [local go_sem ↓] Go.wp_at_zero Go.wp_at_succ

theorem ressC_cut (l : List Res) (k : Nat) (h : k < l.length) : ((ressC l).drop (k * 33)).take 33 = resC l[k] := by
  induction l generalizing k with
  | nil => simp at h
  | cons o l ih =>
    cases k with
    | zero => simp [ressC]
    | succ k =>
      have := ih k (by simpa using h)
      simp only [ressC, List.flatMap_cons, List.getElem_cons_succ] at this ⊢
      rw [← this, List.drop_append]
      simp only [resC_length, show (k + 1) * 33 - 33 = k * 33 by omega, List.drop_of_length_le (show (resC o).length ≤ (k + 1) * 33 by simp; omega), List.nil_append]
theorem idsC_cut (l : List (By 32)) (k : Nat) (h : k < l.length) : ((idsC l).drop (k * 32)).take 32 = bs l[k].1 := by
  induction l generalizing k with
  | nil => simp at h
  | cons o l ih =>
    cases k with
    | zero => simp [idsC]
    | succ k =>
      have := ih k (by simpa using h)
      simp only [idsC, List.flatMap_cons, List.getElem_cons_succ] at this ⊢
      rw [← this, List.drop_append]
      simp only [idC_length, show (k + 1) * 32 - 32 = k * 32 by omega, List.drop_of_length_le (show (bs o.1).length ≤ (k + 1) * 32 by simp; omega), List.nil_append]


theorem results_any (l k : List Res) (v u : Value) (w : World) (hs : Sl w 43 33 v l.length (ressC l)) (ht : Sl w 43 33 u k.length (ressC k)) :
    Calls Try.prog 18 #[v, u] w fun e w' => e = .returned (.bool (decide (l = k))) ∧ Fr0 w w' := by
  obtain ⟨A, c, rfl, hlc, hcm⟩ := hs.form
  obtain ⟨B, d, rfl, hkd, hdm⟩ := ht.form
  unfold maxLen at hcm hdm
  have HS := Lib.hid hs
  have HT := Lib.hid ht
  clear hs ht
  by_cases hne : l.length = k.length
  · have hbe : ((l.length : Int) != (k.length : Int)) = false := by simp [hne]
    have HNE := Lib.hid hne
    clear hne
    go_enter Try.func18, Try.ntmps18
    go_wp2_with fail
    go_loopw [5] (fun iv wr => ∃ i : Nat, i ≤ l.length ∧ iv = .int .i64 i ∧ l.take i = k.take i ∧ Fr0 w wr) (fun i _ => l.length - (intOf i).toNat)
    case atStart => exact ⟨0, by omega, rfl, rfl, Fr.refl _ _⟩
    case round =>
      obtain ⟨i, hi, rfl, htk, hfr⟩ := hrel
      have HTK := Lib.hid htk
      have HFR := Lib.hid hfr
      clear htk hfr
      by_cases hlt : i < l.length
      · have hlt' : i < k.length := by have := HNE.out; omega
        obtain ⟨b, off, rfl, hbs, hld⟩ := (HS.out.fr0 HFR.out).ldA hlt (by omega)
        obtain ⟨b', off', rfl, hbs', hld'⟩ := (HT.out.fr0 HFR.out).ldA hlt' (by omega)
        rw [ressC_cut l i hlt] at hld
        rw [ressC_cut k i hlt'] at hld'
        have hib : (0 : Int) ≤ (i : Int) := by omega
        have hil : (i : Int) < (l.length : Int) := by omega
        have hik : (i : Int) < (k.length : Int) := by omega
        by_cases hlk : l[i] = k[i]
        · have HLK := Lib.hid hlk
          have hd : decide (l[i] = k[i]) = true := by simpa using hlk
          clear hlk
          go_wp2_with fail
          go_quiet (fail)
          go_wp2_with fail
          go_roundw
          case rel => exact ⟨i + 1, by omega, by go_num, by rw [List.take_succ_eq_append_getElem hlt, List.take_succ_eq_append_getElem hlt', HTK.out, HLK.out], HFR.out.drewN _⟩
          case measure => simp [intOf]; omega
        · have HLK := Lib.hid hlk
          have hd : decide (l[i] = k[i]) = false := by simpa using hlk
          clear hlk
          go_wp2_with fail
          go_quiet (fail)
          go_wp2_with fail
          go_ret
          refine ⟨ret_bool ?_, HFR.out.drewN _⟩
          have : l ≠ k := by rintro rfl; exact HLK.out rfl
          simp [this]
      · go_wp2_with fail
        go_ret
        refine ⟨ret_bool ?_, HFR.out⟩
        have h1 := HTK.out
        have h2 := HNE.out
        rw [List.take_of_length_le (by omega), List.take_of_length_le (by omega)] at h1
        simp [h1]
  · have hbe : ((l.length : Int) != (k.length : Int)) = true := by simp; omega
    have hd : decide (l = k) = false := by simp; rintro rfl; exact hne rfl
    rw [hd]
    clear hne hd
    go_enter Try.func18, Try.ntmps18
    go_wp2_with fail
    go_ret
    exact ⟨rfl, Fr.refl _ _⟩

theorem ids_any (l k : List (By 32)) (v u : Value) (w : World) (hs : Sl w 37 32 v l.length (idsC l)) (ht : Sl w 37 32 u k.length (idsC k)) :
    Calls Try.prog 26 #[v, u] w fun e w' => e = .returned (.bool (decide (l = k))) ∧ Fr0 w w' := by
  obtain ⟨A, c, rfl, hlc, hcm⟩ := hs.form
  obtain ⟨B, d, rfl, hkd, hdm⟩ := ht.form
  unfold maxLen at hcm hdm
  have HS := Lib.hid hs
  have HT := Lib.hid ht
  clear hs ht
  by_cases hne : l.length = k.length
  · have hbe : ((l.length : Int) != (k.length : Int)) = false := by simp [hne]
    have HNE := Lib.hid hne
    clear hne
    go_enter Try.func26, Try.ntmps26
    go_wp2_with fail
    go_loopw [5] (fun iv wr => ∃ i : Nat, i ≤ l.length ∧ iv = .int .i64 i ∧ l.take i = k.take i ∧ Fr0 w wr) (fun i _ => l.length - (intOf i).toNat)
    case atStart => exact ⟨0, by omega, rfl, rfl, Fr.refl _ _⟩
    case round =>
      obtain ⟨i, hi, rfl, htk, hfr⟩ := hrel
      have HTK := Lib.hid htk
      have HFR := Lib.hid hfr
      clear htk hfr
      by_cases hlt : i < l.length
      · have hlt' : i < k.length := by have := HNE.out; omega
        obtain ⟨b, off, rfl, hbs, hld⟩ := (HS.out.fr0 HFR.out).ldA hlt (by omega)
        obtain ⟨b', off', rfl, hbs', hld'⟩ := (HT.out.fr0 HFR.out).ldA hlt' (by omega)
        rw [idsC_cut l i hlt] at hld
        rw [idsC_cut k i hlt'] at hld'
        have hib : (0 : Int) ≤ (i : Int) := by omega
        have hil : (i : Int) < (l.length : Int) := by omega
        have hik : (i : Int) < (k.length : Int) := by omega
        by_cases hlk : l[i] = k[i]
        · have HLK := Lib.hid hlk
          have hd : decide (l[i] = k[i]) = true := by simpa using hlk
          clear hlk
          go_wp2_with fail
          go_quiet (fail)
          go_wp2_with fail
          go_roundw
          case rel => exact ⟨i + 1, by omega, by go_num, by rw [List.take_succ_eq_append_getElem hlt, List.take_succ_eq_append_getElem hlt', HTK.out, HLK.out], HFR.out.drewN _⟩
          case measure => simp [intOf]; omega
        · have HLK := Lib.hid hlk
          have hd : decide (l[i] = k[i]) = false := by simpa using hlk
          clear hlk
          go_wp2_with fail
          go_quiet (fail)
          go_wp2_with fail
          go_ret
          refine ⟨ret_bool ?_, HFR.out.drewN _⟩
          have : l ≠ k := by rintro rfl; exact HLK.out rfl
          simp [this]
      · go_wp2_with fail
        go_ret
        refine ⟨ret_bool ?_, HFR.out⟩
        have h1 := HTK.out
        have h2 := HNE.out
        rw [List.take_of_length_le (by omega), List.take_of_length_le (by omega)] at h1
        simp [h1]
  · have hbe : ((l.length : Int) != (k.length : Int)) = true := by simp; omega
    have hd : decide (l = k) = false := by simp; rintro rfl; exact hne rfl
    rw [hd]
    clear hne hd
    go_enter Try.func26, Try.ntmps26
    go_wp2_with fail
    go_ret
    exact ⟨rfl, Fr.refl _ _⟩


@[simp] theorem lt_add_two (n : Nat) : n < n + 1 + 1 := by omega
@[simp] theorem lt_add_three (n : Nat) : n < n + 1 + 1 + 1 := by omega
@[simp] theorem lt_add_four (n : Nat) : n < n + 1 + 1 + 1 + 1 := by omega
/-- The identity whose first byte is x, the others 0. -/
def idk (x : UInt8) : By 32 := ⟨x :: List.replicate 31 0, by simp⟩
@[go_sem ↓] theorem ex_bd_id (ρ : Operand → Value) (dst : Option Tmp) (ps : Array (Nat × Operand)) (ty : TypeId) (pos : String) (aft : Array Edge) (gd : Option (Nat × Bool)) :
    execOp ρ ⟨dst, .build 37 ps, ty, pos, aft, gd⟩ = (do pure (.value (← bd 37 (ps.map fun (i, x) => (i, ρ x))))) := rfl
@[go_sem] theorem run_idk1 (w : World) : (bd 37 #[(0, .int .u8 1)]).run Try.prog w = .ok (.agg (bs (idk 1).1).toArray) w := by kernel_rfl
@[go_sem] theorem run_idk2 (w : World) : (bd 37 #[(0, .int .u8 2)]).run Try.prog w = .ok (.agg (bs (idk 2).1).toArray) w := by kernel_rfl
@[go_sem] theorem run_idk3 (w : World) : (bd 37 #[(0, .int .u8 3)]).run Try.prog w = .ok (.agg (bs (idk 3).1).toArray) w := by kernel_rfl

/-- What known keeps: a window in block g, and three identities in blocks n, n + 1, n + 2 that come behind it. -/
structure Kn (w : World) (g n : Nat) (wk : World) (m : Win) : Prop where
  win : WinAt wk g m
  fr : Fr0 w wk
  lo : w.heap.size ≤ g
  hi : g < n
  a : Blk wk n 37 (bs (idk 1).1).toArray
  b : Blk wk (n + 1) 37 (bs (idk 2).1).toArray
  c : Blk wk (n + 1 + 1) 37 (bs (idk 3).1).toArray
theorem Kn.step {w wk wl : World} {g n : Nat} {m m' : Win} (h : Kn w g n wk m) (hw : WinAt wl g m') (hf : Fr1 g wk wl) : Kn w g n wl m' :=
  ⟨hw, h.fr.then_ hf (fun i hi e => by have := h.lo; omega), h.lo, h.hi, h.a.fr hf (by have := h.hi; omega), h.b.fr hf (by have := h.hi; omega), h.c.fr hf (by have := h.hi; omega)⟩
theorem Kn.step0 {w wk wl : World} {g n : Nat} {m : Win} (h : Kn w g n wk m) (hf : Fr0 wk wl) : Kn w g n wl m := h.step (h.win.fr0 hf) hf.of0
theorem Kn.la {w wk : World} {g n : Nat} {m : Win} (h : Kn w g n wk m) : ldA wk n 0 32 = some (bs (idk 1).1).toArray := by have := h.a.ldA 0 32 (by simp); simpa using this
theorem Kn.lb {w wk : World} {g n : Nat} {m : Win} (h : Kn w g n wk m) : ldA wk (n + 1) 0 32 = some (bs (idk 2).1).toArray := by have := h.b.ldA 0 32 (by simp); simpa using this
theorem Kn.lc {w wk : World} {g n : Nat} {m : Win} (h : Kn w g n wk m) : ldA wk (n + 1 + 1) 0 32 = some (bs (idk 3).1).toArray := by have := h.c.ldA 0 32 (by simp); simpa using this

set_option maxHeartbeats 2000000 in
theorem known_any (w : World) : Calls Try.prog 11 #[] w fun e w' => e = .returned (.bool true) ∧ Fr0 w w' := by
  go_enter Try.func11, Try.ntmps11
  go_wp2_with fail
  refine (new_yes 2 _ (by omega)).mono ?_
  rintro e w1 ⟨g, rfl, hg, hW, hf⟩
  have hlt := hW.lt
  have K1 : Kn w g w1.heap.size (((w1.alloc (.cells (bs (idk 1).1).toArray 37)).alloc (.cells (bs (idk 2).1).toArray 37)).alloc (.cells (bs (idk 3).1).toArray 37)) ⟨2, []⟩ := by
    refine ⟨hW.fr0 ((((Fr.refl _ _).alloc _).alloc _).alloc _), ((hf.alloc _).alloc _).alloc _, hg, hlt, ((Blk.new _ _ _).alloc _).alloc _, ?_, ?_⟩
    · have := (Blk.new (w1.alloc (.cells (bs (idk 1).1).toArray 37)) 37 (bs (idk 2).1).toArray).alloc (.cells (bs (idk 3).1).toArray 37)
      simpa using this
    · have := Blk.new ((w1.alloc (.cells (bs (idk 1).1).toArray 37)).alloc (.cells (bs (idk 2).1).toArray 37)) 37 (bs (idk 3).1).toArray
      simpa using this
  have H1 := Lib.hid K1
  clear hW hf K1
  go_wp2_with fail
  refine (offer_ok g ⟨2, []⟩ (idk 1) 5 _ H1.out.win (by simp) (by omega) (by decide) (by decide)).mono ?_
  rintro e w2 ⟨rfl, hW, hf⟩
  have H2 : Hid (Kn w g w1.heap.size w2 ⟨2, [⟨idk 1, 5, 0⟩]⟩) := H1.out.step hW hf
  have hl2 := H2.out.lb
  clear hW hf
  go_wp2_with fail
  refine (offer_ok g ⟨2, [⟨idk 1, 5, 0⟩]⟩ (idk 2) 5 _ H2.out.win (by simp) (by omega) (by decide) (by decide)).mono ?_
  rintro e w3 ⟨rfl, hW, hf⟩
  have H3 : Hid (Kn w g w1.heap.size w3 ⟨2, [⟨idk 1, 5, 0⟩, ⟨idk 2, 5, 0⟩]⟩) := H2.out.step hW hf
  have hl3 := H3.out.lc
  clear hW hf
  go_wp2_with fail
  refine (offer_busy g ⟨2, [⟨idk 1, 5, 0⟩, ⟨idk 2, 5, 0⟩]⟩ (idk 3) 5 _ H3.out.win (by simp) (by omega) (by decide) (by decide)).mono ?_
  rintro e w4 ⟨rfl, hf⟩
  have H4 : Hid (Kn w g w1.heap.size w4 ⟨2, [⟨idk 1, 5, 0⟩, ⟨idk 2, 5, 0⟩]⟩) := H3.out.step0 hf
  have hl4 := H4.out.lb
  clear hf
  go_wp2_with fail
  refine (answer_ok g ⟨2, [⟨idk 1, 5, 0⟩, ⟨idk 2, 5, 0⟩]⟩ (idk 2) 3 ⟨idk 2, 5, 0⟩ _ H4.out.win (by decide) (by omega) (by decide) (by simp) (by decide)).mono ?_
  rintro e w5 ⟨rfl, hW, hf⟩
  rw [show setOc [⟨idk 1, 5, 0⟩, ⟨idk 2, 5, 0⟩] (idk 2) 3 = [⟨idk 1, 5, 0⟩, ⟨idk 2, 5, 3⟩] by decide] at hW
  have H5 : Hid (Kn w g w1.heap.size w5 ⟨2, [⟨idk 1, 5, 0⟩, ⟨idk 2, 5, 3⟩]⟩) := H4.out.step hW hf
  clear hW hf
  go_wp2_with fail
  refine (settled_any g ⟨2, [⟨idk 1, 5, 0⟩, ⟨idk 2, 5, 3⟩]⟩ _ H5.out.win (by simp)).mono ?_
  rintro e w6 ⟨v6, rfl, ho, hW, hf⟩
  rw [show nset [⟨idk 1, 5, 0⟩, ⟨idk 2, 5, 3⟩] = 0 by decide] at hW ho
  have H6 : Hid (Kn w g w1.heap.size w6 ⟨2, [⟨idk 1, 5, 0⟩, ⟨idk 2, 5, 3⟩]⟩) := H5.out.step hW hf
  obtain ⟨A6, c6, rfl, _, _⟩ := own_form ho
  have hl6 := H6.out.lc
  clear hW hf ho
  go_wp2_with fail
  refine (offer_ok g ⟨2, [⟨idk 1, 5, 0⟩, ⟨idk 2, 5, 3⟩]⟩ (idk 3) 5 _ H6.out.win (by simp) (by omega) (by decide) (by decide)).mono ?_
  rintro e w7 ⟨rfl, hW, hf⟩
  have H7 : Hid (Kn w g w1.heap.size w7 ⟨2, [⟨idk 1, 5, 0⟩, ⟨idk 2, 5, 3⟩, ⟨idk 3, 5, 0⟩]⟩) := H6.out.step hW hf
  have hl7 := H7.out.la
  clear hW hf
  go_wp2_with fail
  refine (answer_ok g ⟨2, [⟨idk 1, 5, 0⟩, ⟨idk 2, 5, 3⟩, ⟨idk 3, 5, 0⟩]⟩ (idk 1) 5 ⟨idk 1, 5, 0⟩ _ H7.out.win (by decide) (by omega) (by decide) (by simp) (by decide)).mono ?_
  rintro e w8 ⟨rfl, hW, hf⟩
  rw [show setOc [⟨idk 1, 5, 0⟩, ⟨idk 2, 5, 3⟩, ⟨idk 3, 5, 0⟩] (idk 1) 5 = [⟨idk 1, 5, 5⟩, ⟨idk 2, 5, 3⟩, ⟨idk 3, 5, 0⟩] by decide] at hW
  have H8 : Hid (Kn w g w1.heap.size w8 ⟨2, [⟨idk 1, 5, 5⟩, ⟨idk 2, 5, 3⟩, ⟨idk 3, 5, 0⟩]⟩) := H7.out.step hW hf
  clear hW hf
  have hla8 := H8.out.la
  have hlb8 := H8.out.lb
  have hsz8 := H8.out.a.lt
  have hsz8b := H8.out.b.lt
  go_wp2_with fail
  go_region_law (first
      | (go_simp; go_at_call 13
         refine (settled_any g ⟨2, [⟨idk 1, 5, 5⟩, ⟨idk 2, 5, 3⟩, ⟨idk 3, 5, 0⟩]⟩ _ (H8.out.win.fr0 (by first | exact (Fr.refl _ _).drew | exact ((Fr.refl _ _).drew).alloc _)) (by simp)).mono ?_
         rintro e w9 ⟨v9, rfl, ho, hW, hf⟩
         rw [show nset [⟨idk 1, 5, 5⟩, ⟨idk 2, 5, 3⟩, ⟨idk 3, 5, 0⟩] = 2 by decide] at hW ho
         have hf' : Fr1 g w8 w9 := Fr.trans (by first | exact (Fr.refl _ _).drew | exact ((Fr.refl _ _).drew).alloc _) hf
         have H9 := Lib.hid (H8.out.step hW hf')
         have hla9 := H9.out.la
         have hlb9 := H9.out.lb
         have hsz9 := H9.out.a.lt
         have hsz9b := H9.out.b.lt
         have HO9 := Lib.hid ho
         try have HE := Lib.hid ((Sl.new w8.drew 43 33 2 (resC ⟨idk 1, 5⟩ ++ resC ⟨idk 2, 3⟩) (by simp) (by unfold maxLen; omega)).fr hf (by
           rintro k cur fz rfl hk
           obtain ⟨vv, hbb, _⟩ := H8.out.win
           have h2 := (hbb.drew.alloc (.cells (resC ⟨idk 1, 5⟩ ++ resC ⟨idk 2, 3⟩).toArray 43))
           unfold Blk at h2; rw [h2] at hk; injection hk with hk; injection hk with _ hk; exact absurd hk (by decide)))
         clear hW hf hf' ho)
      | (go_simp; go_at_call 18
         refine (results_any [⟨idk 1, 5⟩, ⟨idk 2, 3⟩] [⟨idk 1, 5⟩, ⟨idk 2, 3⟩] v9 _ _ (by first | exact Sl.of_own HO9.out | exact (Sl.of_own HO9.out).alloc _) (by first | exact HE.out | exact Sl.new _ _ _ _ _ (by simp) (by unfold maxLen; omega))).mono ?_
         rintro e w10 ⟨rfl, hf⟩
         have hf' : Fr0 w9 w10 := Fr.trans (by first | exact Fr.refl _ _ | exact (Fr.refl _ _).alloc _) hf
         have H10 := Lib.hid (H9.out.step0 hf')
         clear hf hf'))
  all_goals
    go_wp2_with fail
    go_ret
    exact ⟨by simp, H10.out.fr⟩

end Go.Proofs.Ytbcconeebjmjdaa
