/- Chapter 36, the window's own functions: contracts, part B: find, Clone of slices, New, Len, Size, Outcome. No condition beyond the lengths that are named. -/
import Derived.Test.YtbcconeebjmjdaaWinA
namespace Go.Proofs.Ytbcconeebjmjdaa
open Go.RowKit

structure Win where
  size : Int
  l : List Off
/-- Block g holds the window m. -/
def WinAt (w : World) (g : Nat) (m : Win) : Prop := ∃ v, Blk w g 78 #[.int .i64 m.size, v] ∧ Sl w 81 34 v m.l.length (offsC m.l)
theorem WinAt.fr {w w' : World} {g : Nat} {m : Win} {S : Nat → Prop} (h : WinAt w g m) (hf : Fr S w w') (hg : ¬ S g) (hS : ∀ (k : Nat) (cur : Array Value) (fz : Nat × Nat), S k → w.heap[k]? ≠ some (Obj.cells cur 81 fz)) : WinAt w' g m := by
  obtain ⟨v, hb, hs⟩ := h
  exact ⟨v, hb.fr hf hg, hs.fr hf hS⟩
theorem WinAt.fr0 {w w' : World} {g : Nat} {m : Win} (h : WinAt w g m) (hf : Fr0 w w') : WinAt w' g m := h.fr hf (fun h => h) (fun _ _ _ h => h.elim)
/-- Another window's block may have turned. -/
theorem WinAt.fr1 {w w' : World} {g g' : Nat} {m m' : Win} (h : WinAt w g m) (h' : WinAt w g' m') (hf : Fr1 g' w w') (hne : g ≠ g') : WinAt w' g m := by
  obtain ⟨v', hb', _⟩ := h'
  refine h.fr hf hne ?_
  rintro k cur fz rfl hk
  unfold Blk at hb'; rw [hb'] at hk; injection hk with hk; injection hk with _ hk; exact absurd hk (by decide)
theorem WinAt.lt {w : World} {g : Nat} {m : Win} (h : WinAt w g m) : g < w.heap.size := by obtain ⟨v, hb, _⟩ := h; exact hb.lt

abbrev wptr (g : Nat) : Value := .pointer (some ⟨g, 0, none⟩)
abbrev idV (i : By 32) : Value := .agg (bs i.1).toArray

theorem cf_find1 (args : Array Value) (w : World) : (callFunc 43 args).run Try.prog w = .ok (.enter 43 args) w := by kernel_rfl
theorem cf_outstanding (args : Array Value) (w : World) : (callFunc 37 args).run Try.prog w = .ok (.enter 37 args) w := by kernel_rfl

theorem find_nil (id : By 32) (w : World) : Calls Try.prog 39 #[.pointer none, idV id] w fun e w' => e = .returned (.int .i64 (-1)) ∧ Fr0 w w' := by
  go_enter Try.func39, Try.ntmps39
  go_wp2_with fail
  go_ret
  exact ⟨rfl, (Fr.refl _ _).alloc _⟩

def hasId (id : By 32) (o : Off) : Bool := decide (o.id = id)
theorem find_any (g : Nat) (m : Win) (id : By 32) (w : World) (h : WinAt w g m) :
    Calls Try.prog 39 #[wptr g, idV id] w fun e w' => e = .returned (.int .i64 (idx (hasId id) m.l)) ∧ Fr0 w w' := by
  have hg := h.lt
  obtain ⟨v, hb, hs⟩ := h
  have hc0 := hb.cell 0
  have hc1 := hb.cell 1
  simp at hc0 hc1
  have HS := Lib.hid hs
  clear hb hs
  go_enter Try.func39, Try.ntmps39
  go_wp2_with fail
  refine (indexFunc_any _ _ (hasId id) m.l v _ (fun o w1 hf => ?_) cf_find1 (HS.out.fr0 ((Fr.refl _ _).alloc _))).mono ?_
  · exact find1_any o id w.heap.size w1 ((Blk.new w _ _).fr hf (fun h => h))
  rintro e w1 ⟨rfl, hf⟩
  have HF := Lib.hid hf
  clear hf
  go_wp2_with fail
  go_ret
  exact ⟨rfl, ((Fr.refl _ _).alloc _).trans HF.out⟩

/-- slices.Clone of offers: a slice that reads the same; of something it lies in a block that is new. -/
theorem clone_any (l : List Off) (v : Value) (w : World) (hs : Sl w 81 34 v l.length (offsC l)) (hl : l.length ≤ 100000) :
    Calls Try.prog 38 #[v] w fun e w' => ∃ v', e = .returned v' ∧ w'.ownsRow w.heap.size 81 34 v' l.length (offsC l) ∧ Fr0 w w' := by
  obtain ⟨A, c, rfl, hlc, hcm⟩ := hs.form
  rcases A with _ | a
  · have hl0 : l = [] := by
      cases l with
      | nil => rfl
      | cons o l =>
        obtain ⟨b, off, hA, _⟩ := hs.at_ (k := 0) (by simp)
        cases hA
    subst hl0
    clear hs
    go_enter Try.func38, Try.ntmps38
    go_wp2_with fail
    go_ret
    exact ⟨_, rfl, World.ownsRow_nil _ _ _ _, Fr.refl _ _⟩
  · obtain ⟨v', w1, hrun, hown, hgr, hat⟩ := run_app (w.alloc (.cells #[] 81)) app_off 76 (own_empty w 81 34) (hs.alloc _) (offsC_one l) (by unfold maxLen; omega) (by omega) (by simp)
    have HO := Lib.hid hown
    clear hs hown
    go_enter Try.func38, Try.ntmps38
    go_wp2_with fail
    go_ret
    refine ⟨_, rfl, by simpa using HO.out, Fr.app ((Fr.refl _ _).alloc _) hgr ?_⟩
    intro k hk hlt
    simp [Value.ownBlock] at hk; omega

end Go.Proofs.Ytbcconeebjmjdaa
