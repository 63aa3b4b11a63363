/- Chapter 36, the window's own functions: contracts, part E: changes, Answer. No condition beyond the lengths that are named. -/
import Derived.Test.YtbcconeebjmjdaaWinD
namespace Go.Proofs.Ytbcconeebjmjdaa
open Go.RowKit
attribute [local go_sem ↓] Go.wp_at_zero Go.wp_at_succ

/-- Which outcome may follow which. -/
def poss (i j : Int) : Bool := decide ((i = 0 ∧ (j = 1 ∨ j = 3 ∨ j = 4 ∨ j = 5)) ∨ (i = 1 ∧ (j = 2 ∨ j = 4 ∨ j = 5)))
def chgRow (i : Int) : List Value := [.bool (poss i 0), .bool (poss i 1), .bool (poss i 2), .bool (poss i 3), .bool (poss i 4), .bool (poss i 5)]
def chgC : List Value := chgRow 0 ++ (chgRow 1 ++ (chgRow 2 ++ (chgRow 3 ++ (chgRow 4 ++ chgRow 5))))

def ix (T : TypeId) (x i : Value) : Sem Value := Instr.index T x i
@[go_sem ↓] theorem ex_ix_row (ρ : Operand → Value) (dst : Option Tmp) (x y : Operand) (ty : TypeId) (pos : String) (aft : Array Edge) (gd : Option (Nat × Bool)) :
    execOp ρ ⟨dst, .index 84 x y, ty, pos, aft, gd⟩ = (do pure (.value (← ix 84 (ρ x) (ρ y)))) := rfl
@[go_sem ↓] theorem ex_ix_tab (ρ : Operand → Value) (dst : Option Tmp) (x y : Operand) (ty : TypeId) (pos : String) (aft : Array Edge) (gd : Option (Nat × Bool)) :
    execOp ρ ⟨dst, .index 85 x y, ty, pos, aft, gd⟩ = (do pure (.value (← ix 85 (ρ x) (ρ y)))) := rfl
theorem run_ix_tab (w : World) (i : Int) (h0 : 0 ≤ i) (h5 : i ≤ 5) : (ix 85 (.agg chgC.toArray) (.int .i64 i)).run Try.prog w = .ok (.agg (chgRow i).toArray) w := by
  rcases (by omega : i = 0 ∨ i = 1 ∨ i = 2 ∨ i = 3 ∨ i = 4 ∨ i = 5) with rfl | rfl | rfl | rfl | rfl | rfl <;> kernel_rfl
theorem run_ix_row (w : World) (i j : Int) (h0 : 0 ≤ j) (h5 : j ≤ 5) : (ix 84 (.agg (chgRow i).toArray) (.int .i64 j)).run Try.prog w = .ok (.bool (poss i j)) w := by
  rcases (by omega : j = 0 ∨ j = 1 ∨ j = 2 ∨ j = 3 ∨ j = 4 ∨ j = 5) with rfl | rfl | rfl | rfl | rfl | rfl <;> kernel_rfl

@[go_sem] theorem run_row_a (w : World) : (bd 84 #[(1, .bool true), (3, .bool true), (4, .bool true), (5, .bool true)]).run Try.prog w = .ok (.agg (chgRow 0).toArray) w := by kernel_rfl
@[go_sem] theorem run_row_b (w : World) : (bd 84 #[(2, .bool true), (4, .bool true), (5, .bool true)]).run Try.prog w = .ok (.agg (chgRow 1).toArray) w := by kernel_rfl
@[simp] theorem chgRow_length (i : Int) : (chgRow i).length = 6 := rfl
@[simp] theorem chgRow_one (i : Int) : (chgRow i).all (·.oneCell') = true := rfl
@[simp] theorem chgC_length : chgC.length = 36 := rfl
@[simp] theorem chgC_one : chgC.all (·.oneCell') = true := rfl

theorem chg_put : putAt (putAt #[.bool false, .bool false, .bool false, .bool false, .bool false, .bool false, .bool false, .bool false, .bool false, .bool false, .bool false, .bool false, .bool false, .bool false, .bool false, .bool false, .bool false, .bool false, .bool false, .bool false, .bool false, .bool false, .bool false, .bool false, .bool false, .bool false, .bool false, .bool false, .bool false, .bool false, .bool false, .bool false, .bool false, .bool false, .bool false, .bool false] 0 (chgRow 0).toArray) 6 (chgRow 1).toArray = chgC.toArray := by kernel_rfl
theorem changes_any (w : World) : Calls Try.prog 40 #[] w fun e w' => e = .returned (.agg chgC.toArray) ∧ Fr0 w w' := by
  have hput := chg_put
  have hall : chgC.toArray.extract 0 36 = chgC.toArray := by kernel_rfl
  have hall' : chgC.take 36 = chgC := by kernel_rfl
  go_enter Try.func40, Try.ntmps40
  go_wp2_with fail
  refine bodyPost_agg (n := 36) rfl Try.underlying85 rfl info__6__6_bool rfl (by simp [hall']) rfl ⟨rfl, ?_⟩
  exact ((Fr.refl _ _).alloc _).alloc _

theorem answer_nil (id : By 32) (n : Int) (w : World) : Calls Try.prog 17 #[.pointer none, idV id, .int .i64 n] w fun e w' => e = .returned (.int .i64 1) ∧ Fr0 w w' := by
  go_enter Try.func17, Try.ntmps17
  go_wp2_with fail
  refine (find_nil id _).mono ?_
  rintro e w1 ⟨rfl, hf⟩
  have HF := Lib.hid hf
  clear hf
  go_wp2_with fail
  go_ret
  exact ⟨rfl, ((Fr.refl _ _).alloc _).trans HF.out⟩
theorem answer_none (g : Nat) (m : Win) (id : By 32) (n : Int) (w : World) (hw : WinAt w g m) (h : m.l.find? (hasId id) = none) :
    Calls Try.prog 17 #[wptr g, idV id, .int .i64 n] w fun e w' => e = .returned (.int .i64 8) ∧ Fr0 w w' := by
  have hi := idx_neg _ _ h
  clear h
  go_enter Try.func17, Try.ntmps17
  go_wp2_with fail
  refine (find_any g m id _ (hw.fr0 ((Fr.refl _ _).alloc _))).mono ?_
  rintro e w1 ⟨rfl, hf⟩
  rw [hi]
  have HF := Lib.hid hf
  clear hf hi
  go_wp2_with fail
  go_ret
  exact ⟨rfl, ((Fr.refl _ _).alloc _).trans HF.out⟩
theorem answer_kind (g : Nat) (m : Win) (id : By 32) (n : Int) (o : Off) (w : World) (hw : WinAt w g m) (h : m.l.find? (hasId id) = some o) (hn : n < 1 ∨ 5 < n) :
    Calls Try.prog 17 #[wptr g, idV id, .int .i64 n] w fun e w' => e = .returned (.int .i64 11) ∧ Fr0 w w' := by
  obtain ⟨k, hk, hi, _, _, _⟩ := idx_pos _ _ _ h
  clear h
  rcases hn with hn | hn
  · go_enter Try.func17, Try.ntmps17
    go_wp2_with fail
    refine (find_any g m id _ (hw.fr0 ((Fr.refl _ _).alloc _))).mono ?_
    rintro e w1 ⟨rfl, hf⟩
    rw [hi]
    have HF := Lib.hid hf
    clear hf hi
    go_wp2_with fail
    go_ret
    exact ⟨rfl, ((Fr.refl _ _).alloc _).trans HF.out⟩
  · have hn1 : ¬ n < 1 := by omega
    go_enter Try.func17, Try.ntmps17
    go_wp2_with fail
    refine (find_any g m id _ (hw.fr0 ((Fr.refl _ _).alloc _))).mono ?_
    rintro e w1 ⟨rfl, hf⟩
    rw [hi]
    have HF := Lib.hid hf
    clear hf hi
    go_wp2_with fail
    go_ret
    exact ⟨rfl, ((Fr.refl _ _).alloc _).trans HF.out⟩

/-- Answer as far as the look at the table: the walk's part that both ways share. -/
theorem answer_state (g : Nat) (m : Win) (id : By 32) (n : Int) (o : Off) (w : World) (hw : WinAt w g m) (h : m.l.find? (hasId id) = some o) (hn : 1 ≤ n ∧ n ≤ 5) (ho : 0 ≤ o.oc ∧ o.oc ≤ 5) (hp : poss o.oc n = false) :
    Calls Try.prog 17 #[wptr g, idV id, .int .i64 n] w fun e w' => e = .returned (.int .i64 10) ∧ Fr0 w w' := by
  obtain ⟨k, hk, hi, rfl, _, _⟩ := idx_pos _ _ _ h
  clear h
  have hr1 := fun w => run_ix_tab w m.l[k].oc ho.1 ho.2
  have hr2 := fun w => run_ix_row w m.l[k].oc n (by omega) hn.2
  rw [hp] at hr2
  obtain ⟨hn1, hn2⟩ := hn
  have hn3 : ¬ n < 1 := by omega
  have hn4 : ¬ 5 < n := by omega
  clear hp ho
  go_enter Try.func17, Try.ntmps17
  go_wp2_with fail
  refine (find_any g m id _ (hw.fr0 ((Fr.refl _ _).alloc _))).mono ?_
  rintro e w1 ⟨rfl, hf⟩
  rw [hi]
  have hf2 := ((Fr.refl _ w).alloc (.cells (bs id.1).toArray 37)).trans hf
  have HF := Lib.hid hf2
  have HW1 := Lib.hid (hw.fr0 hf2)
  obtain ⟨v, hbk, hs⟩ := HW1.out
  obtain ⟨A, c, rfl, hlc, hcm⟩ := hs.form
  unfold maxLen at hcm
  have hc1 := hbk.cell 1
  simp at hc1
  have hg1 := hbk.lt
  obtain ⟨b, off, rfl, hbs, h33⟩ := off_33 hs k hk
  have hki : (0 : Int) ≤ (k : Int) := by omega
  have hkl : (k : Int) < (m.l.length : Int) := by omega
  clear hf hi hf2 hbk hs hw
  go_wp2_with fail
  go_region_held3 (fun w' => w'.cell? ⟨g, 1, none⟩ = some (.slice (some ⟨b, off, none⟩) m.l.length c) ∧ w'.cell? ⟨b, off + k * 34 + 33, none⟩ = some (.int .i64 m.l[k].oc)) (first | (refine ⟨?_, ?_⟩ <;> assumption) | go_keep)
    (first | (go_at_call 40; refine (changes_any _).mono ?_
              rintro e w' ⟨rfl, hf⟩
              have hc2 := (hf.cell (p := ⟨g, 1, none⟩) hg1 (fun h => h)).trans hc1
              have hc3 := (hf.cell (p := ⟨b, off + k * 34 + 33, none⟩) hbs (fun h => h)).trans h33
              have HF2 := Lib.hid hf
              clear hf))
  go_wp2_with fail
  go_ret
  exact ⟨rfl, HF.out.trans (Fr.trans (Fr.refl _ _).drew HF2.out)⟩

/-- The first offer with an identity gets another outcome. -/
def setOc (l : List Off) (id : By 32) (n : Int) : List Off := match l.findIdx? (hasId id) with | some k => l.modify k (fun o => { o with oc := n }) | none => l
theorem setOc_eq (l : List Off) (id : By 32) (n : Int) (k : Nat) (hk : k < l.length) (hi : idx (hasId id) l = k) : setOc l id n = l.set k { l[k] with oc := n } := by
  unfold idx at hi
  unfold setOc
  cases h : l.findIdx? (hasId id) with
  | none => simp [h] at hi
  | some j =>
    simp only [h] at hi
    obtain rfl : j = k := by omega
    apply List.ext_getElem?
    intro i
    simp only [List.getElem?_modify, List.getElem?_set]
    by_cases hij : j = i
    · subst hij; simp [hk]
    · simp [hij]
theorem offC_set (o : Off) (n : Int) : (offC o).set 33 (.int .i64 n) = offC { o with oc := n } := by
  simp only [offC]
  rw [List.set_append_right _ _ (by simp)]
  simp
theorem offsC_set (l : List Off) (k : Nat) (hk : k < l.length) (n : Int) : (offsC l).set (k * 34 + 33) (.int .i64 n) = offsC (l.set k { l[k] with oc := n }) := by
  induction l generalizing k with
  | nil => simp at hk
  | cons o l ih =>
    cases k with
    | zero =>
      simp only [offsC, List.flatMap_cons, List.set_cons_zero, List.getElem_cons_zero, Nat.zero_mul, Nat.zero_add]
      rw [List.set_append_left _ _ (by simp), offC_set]
    | succ k =>
      have := ih k (by simpa using hk)
      simp only [offsC, List.flatMap_cons, List.set_cons_succ, List.getElem_cons_succ] at this ⊢
      rw [List.set_append_right _ _ (by simp; omega), ← this]
      simp only [offC_length]
      congr 2; omega
theorem ans_store {w w' w4 : World} {g gb cap : Nat} {m : Win} (hf3 : Fr0 w w') (hw : WinAt w' g m) (hf4 : Fr0 w' w4)
    (ho : w4.ownsRow w'.heap.size 81 34 (.slice (some ⟨gb, 0, none⟩) m.l.length cap) m.l.length (offsC m.l)) (hne : g ≠ gb) (hgb : w'.heap.size ≤ gb) (k : Nat) (hk : k < m.l.length) (n : Int) {l : List Off} (hl : l = m.l.set k { m.l[k] with oc := n }) :
    WinAt ((w4.setCell ⟨g, 1, none⟩ (.slice (some ⟨gb, 0, none⟩) m.l.length cap)).setCell ⟨gb, k * 34 + 33, none⟩ (.int .i64 n)) g ⟨m.size, l⟩ ∧
      Fr1 g w ((w4.setCell ⟨g, 1, none⟩ (.slice (some ⟨gb, 0, none⟩) m.l.length cap)).setCell ⟨gb, k * 34 + 33, none⟩ (.int .i64 n)) := by
  subst hl
  obtain ⟨v, hb, hs⟩ := hw.fr0 hf4
  have hs1 := hf3.size
  have hs2 := hf4.size
  have ho1 : (w4.setCell ⟨g, 1, none⟩ (.slice (some ⟨gb, 0, none⟩) m.l.length cap)).ownsRow w'.heap.size 81 34 (.slice (some ⟨gb, 0, none⟩) m.l.length cap) m.l.length (offsC m.l) :=
    own_fr (S := fun k => k = g) ho ((Fr.refl (fun k => k = g) w4).setCell (p := ⟨g, 1, none⟩) (fun _ => rfl) _) (by intro k hk; simp [Value.ownBlock] at hk; omega)
  have ho2 := (ho1.stored (k * 34 + 33) (.int .i64 n)).1
  rw [offsC_set m.l k hk] at ho2
  have h1 := (hb.set_ 1 (.slice (some ⟨gb, 0, none⟩) m.l.length cap)).far (p := ⟨gb, k * 34 + 33, none⟩) hne (.int .i64 n)
  have h2 := Sl.of_own ho2
  have h3 : Fr1 g w (w4.setCell ⟨g, 1, none⟩ (.slice (some ⟨gb, 0, none⟩) m.l.length cap)) := Fr.setCell (S := fun k => k = g) (p := ⟨g, 1, none⟩) (hf3.of0.trans hf4.of0) (fun _ => rfl) _
  exact ⟨⟨_, by simpa using h1, by simpa using h2⟩, Fr.setCell (p := ⟨gb, k * 34 + 33, none⟩) h3 (fun h => absurd h (by show ¬ gb < _; omega)) _⟩
theorem answer_ok (g : Nat) (m : Win) (id : By 32) (n : Int) (o : Off) (w : World) (hw : WinAt w g m) (h : m.l.find? (hasId id) = some o) (hn : 1 ≤ n ∧ n ≤ 5) (ho : 0 ≤ o.oc ∧ o.oc ≤ 5) (hl : m.l.length ≤ 10000) (hp : poss o.oc n = true) :
    Calls Try.prog 17 #[wptr g, idV id, .int .i64 n] w fun e w' => e = .returned (.int .i64 0) ∧ WinAt w' g ⟨m.size, setOc m.l id n⟩ ∧ Fr1 g w w' := by
  obtain ⟨k, hk, hi, rfl, _, _⟩ := idx_pos _ _ _ h
  have HSO := Lib.hid (setOc_eq m.l id n k hk hi)
  clear h
  have hr1 := fun w => run_ix_tab w m.l[k].oc ho.1 ho.2
  have hr2 := fun w => run_ix_row w m.l[k].oc n (by omega) hn.2
  rw [hp] at hr2
  obtain ⟨hn1, hn2⟩ := hn
  have hn3 : ¬ n < 1 := by omega
  have hn4 : ¬ 5 < n := by omega
  clear hp ho
  go_enter Try.func17, Try.ntmps17
  go_wp2_with fail
  refine (find_any g m id _ (hw.fr0 ((Fr.refl _ _).alloc _))).mono ?_
  rintro e w1 ⟨rfl, hf⟩
  rw [hi]
  have hf2 := ((Fr.refl _ w).alloc (.cells (bs id.1).toArray 37)).trans hf
  have HF := Lib.hid hf2
  have HW1 := Lib.hid (hw.fr0 hf2)
  obtain ⟨v, hbk, hs⟩ := HW1.out
  obtain ⟨A, c, rfl, hlc, hcm⟩ := hs.form
  unfold maxLen at hcm
  have hc1 := hbk.cell 1
  simp at hc1
  have hg1 := hbk.lt
  obtain ⟨b, off, rfl, hbs, h33⟩ := off_33 hs k hk
  have hki : (0 : Int) ≤ (k : Int) := by omega
  have hkl : (k : Int) < (m.l.length : Int) := by omega
  clear hf hi hf2 hbk hs hw
  go_wp2_with fail
  go_region_held3 (fun w' => w'.cell? ⟨g, 1, none⟩ = some (.slice (some ⟨b, off, none⟩) m.l.length c) ∧ w'.cell? ⟨b, off + k * 34 + 33, none⟩ = some (.int .i64 m.l[k].oc)) (first | (refine ⟨?_, ?_⟩ <;> assumption) | go_keep)
    (first | (go_at_call 40; refine (changes_any _).mono ?_
              rintro e w' ⟨rfl, hf⟩
              have hc2 := (hf.cell (p := ⟨g, 1, none⟩) hg1 (fun h => h)).trans hc1
              have hc3 := (hf.cell (p := ⟨b, off + k * 34 + 33, none⟩) hbs (fun h => h)).trans h33
              have HF2 := Lib.hid hf
              clear hf))
  have HF3 := Lib.hid (HF.out.trans (Fr.trans (S := fun _ => False) (Fr.refl _ _).drew HF2.out))
  have HW3 := Lib.hid ((HW1.out).fr0 (Fr.trans (S := fun _ => False) (Fr.refl _ _).drew HF2.out))
  obtain ⟨v3, hbk, hs⟩ := HW3.out
  obtain rfl : v3 = .slice (some ⟨b, off, none⟩) m.l.length c := by
    have := hbk.cell 1
    rw [hc2] at this
    simpa using this.symm
  have HS3 := Lib.hid hs
  have hf4 := hbk.frozen 1
  have hg3 := hbk.lt
  clear hbk hs hc3
  go_wp2_with fail
  refine (clone_any m.l _ _ HS3.out (by omega)).mono ?_
  rintro e w4 ⟨v4, rfl, ho, hf⟩
  obtain ⟨gb, cap, hv4, hgb, hlt⟩ := ho.form (by omega)
  rw [hv4] at ho ⊢
  have hne : g ≠ gb := by omega
  have hne' : gb ≠ g := by omega
  have hlc' : m.l.length ≤ cap := by
    obtain ⟨A, c', hv, h1, h2⟩ := own_form ho
    injection hv with _ _ h3; omega
  have HO := Lib.hid ho
  have HF4 := Lib.hid hf
  have hc5 : w4.cell? ⟨g, 1, none⟩ = some (.slice (some ⟨b, off, none⟩) m.l.length c) := (hf.cell (p := ⟨g, 1, none⟩) hg3 (fun h => h)).trans hc2
  have hf5 : w4.frozen? ⟨g, 1, none⟩ = false := (hf.frozen (p := ⟨g, 1, none⟩) hg3 (fun h => h)).trans hf4
  have hc6 : w4.cell? ⟨gb, k * 34 + 33, none⟩ = some (.int .i64 m.l[k].oc) := by
    rw [ho.cellAt _ (by omega)]
    have := congrArg (·[33]?) (offsC_cut m.l k hk)
    simp only [List.getElem?_take, List.getElem?_drop] at this
    rw [if_pos (by omega)] at this
    rw [this]; simp
  have hf6 : w4.frozen? ⟨gb, k * 34 + 33, none⟩ = false := ho.frozenAt _
  clear ho hf hv4 hc2
  go_wp2_with fail
  go_ret
  exact ⟨rfl, ans_store HF3.out HW3.out HF4.out HO.out hne hgb k hk n HSO.out⟩

end Go.Proofs.Ytbcconeebjmjdaa
