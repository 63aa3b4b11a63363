/- Chapter 36: what each operation makes of a window, as one function each; the law's helper perform. No condition beyond the lengths that are named. -/
import Derived.Test.YtbcconeebjmjdaaWinI
import Derived.Test.YtbcconeebjmjdaaOpen
import Derived.OwnWalk
namespace Go.Proofs.Ytbcconeebjmjdaa
open Go.RowKit
attribute [local go_sem ↓] Go.wp_at_zero Go.wp_at_succ

/-- What holds of every window that the operations reach. -/
structure Inv (m : Win) : Prop where
  s1 : 1 ≤ m.size
  s2 : m.size ≤ 64
  oc : ∀ o ∈ m.l, 0 ≤ o.oc ∧ o.oc ≤ 5

def offerW (m : Win) (id : By 32) (n : Int) : Win × Int :=
  if 0 ≤ n ∧ n ≤ 65536 then
    if (m.l.find? (hasId id)).isSome then (m, 7)
    else if m.size ≤ (outs m.l).length then (m, 25) else (⟨m.size, m.l ++ [⟨id, n, 0⟩]⟩, 0)
  else (m, 2)
theorem offer_any (g : Nat) (m : Win) (id : By 32) (n : Int) (w : World) (hw : WinAt w g m) (hl : m.l.length ≤ 10000) :
    Calls Try.prog 15 #[wptr g, idV id, .int .i64 n] w fun e w' => e = .returned (.int .i64 (offerW m id n).2) ∧ WinAt w' g (offerW m id n).1 ∧ Fr1 g w w' := by
  unfold offerW
  split
  · rename_i hn
    split
    · rename_i h
      obtain ⟨o, ho⟩ := Option.isSome_iff_exists.1 h
      refine (offer_dup g m id n o w hw hn ho).mono ?_
      rintro e w1 ⟨rfl, hf⟩
      exact ⟨rfl, hw.fr0 hf, hf.of0⟩
    · rename_i h
      have h' : m.l.find? (hasId id) = none := by simpa using h
      split
      · rename_i hb
        refine (offer_busy g m id n w hw (by omega) hn h' hb).mono ?_
        rintro e w1 ⟨rfl, hf⟩
        exact ⟨rfl, hw.fr0 hf, hf.of0⟩
      · exact offer_ok g m id n w hw hl hn h' (by omega)
  · refine (offer_range g id n w (by omega)).mono ?_
    rintro e w1 ⟨rfl, hf⟩
    exact ⟨rfl, hw.fr0 hf, hf.of0⟩

def answerW (m : Win) (id : By 32) (n : Int) : Win × Int :=
  match m.l.find? (hasId id) with
  | none => (m, 8)
  | some o => if 1 ≤ n ∧ n ≤ 5 then (if poss o.oc n then (⟨m.size, setOc m.l id n⟩, 0) else (m, 10)) else (m, 11)
theorem answer_any (g : Nat) (m : Win) (id : By 32) (n : Int) (w : World) (hw : WinAt w g m) (hi : Inv m) (hl : m.l.length ≤ 10000) :
    Calls Try.prog 17 #[wptr g, idV id, .int .i64 n] w fun e w' => e = .returned (.int .i64 (answerW m id n).2) ∧ WinAt w' g (answerW m id n).1 ∧ Fr1 g w w' := by
  unfold answerW
  split
  · rename_i h
    refine (answer_none g m id n w hw h).mono ?_
    rintro e w1 ⟨rfl, hf⟩
    exact ⟨rfl, hw.fr0 hf, hf.of0⟩
  · rename_i o h
    have ho := hi.oc o (List.mem_of_find?_eq_some h)
    split
    · rename_i hn
      split
      · rename_i hp
        exact answer_ok g m id n o w hw h hn ho hl hp
      · rename_i hp
        refine (answer_state g m id n o w hw h hn ho (by simpa using hp)).mono ?_
        rintro e w1 ⟨rfl, hf⟩
        exact ⟨rfl, hw.fr0 hf, hf.of0⟩
    · rename_i hn
      refine (answer_kind g m id n o w hw h (by omega)).mono ?_
      rintro e w1 ⟨rfl, hf⟩
      exact ⟨rfl, hw.fr0 hf, hf.of0⟩

def resizeW (m : Win) (n : Int) : Win × Int := if 1 ≤ n ∧ n ≤ 64 then (⟨n, m.l⟩, 0) else (m, 2)
theorem resize_any (g : Nat) (m : Win) (n : Int) (w : World) (hw : WinAt w g m) :
    Calls Try.prog 20 #[wptr g, .int .i64 n] w fun e w' => e = .returned (.int .i64 (resizeW m n).2) ∧ WinAt w' g (resizeW m n).1 ∧ Fr1 g w w' := by
  unfold resizeW
  split
  · rename_i h
    exact resize_yes g m n w hw h
  · rename_i h
    refine (resize_no g n w h).mono ?_
    rintro e w1 ⟨rfl, rfl⟩
    exact ⟨rfl, hw, Fr.refl _ _⟩

def performW (m : Win) (o : OpM) : Win × Int × List Res × List (By 32) :=
  if o.kind.toNat % 5 = 0 then ((offerW m o.id o.n).1, (offerW m o.id o.n).2, [], [])
  else if o.kind.toNat % 5 = 1 then ((answerW m o.id o.n).1, (answerW m o.id o.n).2, [], [])
  else if o.kind.toNat % 5 = 2 then (⟨m.size, m.l.drop (nset m.l)⟩, 0, (m.l.take (nset m.l)).map resOf, [])
  else if o.kind.toNat % 5 = 3 then (⟨m.size, m.l.filter notOut⟩, 0, [], outs m.l)
  else ((resizeW m o.n).1, (resizeW m o.n).2, [], [])

abbrev opV (o : OpM) : Value := .agg (opC o).toArray

@[simp] theorem opC_tail (o : OpM) : (opC o).tail.take 32 = bs o.id.1 := by simp [opC]
theorem run_rem5 (w : World) (k : UInt8) : (binOp .rem 5 (u8 k) (.int .u8 5)).run Try.prog w = .ok (.int .u8 ((k.toNat % 5 : Nat) : Int)) w := by
  have h : (k.toNat : Int).tmod 5 = ((k.toNat % 5 : Nat) : Int) := by rw [Int.tmod_eq_emod_of_nonneg (by omega)]; omega
  have h2 : IntKind.u8.wrap ((k.toNat % 5 : Nat) : Int) = ((k.toNat % 5 : Nat) : Int) := IntWalk.u8_in _ (by omega)
  unfold u8
  go_simp

theorem perform_any (g : Nat) (m : Win) (o : OpM) (w : World) (hw : WinAt w g m) (hi : Inv m) (hl : m.l.length ≤ 10000) :
    Calls Try.prog 23 #[wptr g, opV o] w fun e w' => ∃ r d, e = .returned (.tuple #[.int .i64 (performW m o).2.1, r, d]) ∧
      Sl w' 43 33 r (performW m o).2.2.1.length (ressC (performW m o).2.2.1) ∧ Sl w' 37 32 d (performW m o).2.2.2.length (idsC (performW m o).2.2.2) ∧ WinAt w' g (performW m o).1 ∧ Fr1 g w w' := by
  have hrun := fun w => run_rem5 w o.kind
  obtain ⟨r, hr5, hr⟩ : ∃ r, r < 5 ∧ o.kind.toNat % 5 = r := ⟨o.kind.toNat % 5, by omega, rfl⟩
  rw [hr] at hrun
  have HW := Lib.hid hw
  have HI := Lib.hid hi
  unfold performW
  rw [hr]
  clear hw hi
  rcases (show r = 0 ∨ r = 1 ∨ r = 2 ∨ r = 3 ∨ r = 4 by omega) with rfl | rfl | rfl | rfl | rfl
  · simp only [↓reduceIte]
    go_enter Try.func23, Try.ntmps23
    go_wp2_with fail
    refine (offer_any g m o.id o.n _ (HW.out.fr0 ((Fr.refl _ _).alloc _)) hl).mono ?_
    rintro e w1 ⟨rfl, hW, hf⟩
    clear hrun
    go_wp2_with fail
    go_ret3
    exact ⟨_, _, rfl, Sl.nil _ _ _, Sl.nil _ _ _, hW, ((Fr.refl (fun k => k = g) w).alloc _).trans hf⟩
  · simp only [show ¬ (1 = 0) by omega, ↓reduceIte]
    go_enter Try.func23, Try.ntmps23
    go_wp2_with fail
    refine (answer_any g m o.id o.n _ (HW.out.fr0 ((Fr.refl _ _).alloc _)) HI.out hl).mono ?_
    rintro e w1 ⟨rfl, hW, hf⟩
    clear hrun
    go_wp2_with fail
    go_ret3
    exact ⟨_, _, rfl, Sl.nil _ _ _, Sl.nil _ _ _, hW, ((Fr.refl (fun k => k = g) w).alloc _).trans hf⟩
  · simp only [show ¬ (2 = 0) by omega, show ¬ (2 = 1) by omega, ↓reduceIte]
    go_enter Try.func23, Try.ntmps23
    go_wp2_with fail
    refine (settled_any g m _ (HW.out.fr0 ((Fr.refl _ _).alloc _)) hl).mono ?_
    rintro e w1 ⟨v, rfl, ho, hW, hf⟩
    clear hrun
    go_wp2_with fail
    go_ret3
    exact ⟨_, _, rfl, (by have := Sl.of_own ho; have hn := nset_le m.l; simpa [Nat.min_eq_left hn] using this), Sl.nil _ _ _, hW, ((Fr.refl (fun k => k = g) w).alloc _).trans hf⟩
  · simp only [show ¬ (3 = 0) by omega, show ¬ (3 = 1) by omega, show ¬ (3 = 2) by omega, ↓reduceIte]
    go_enter Try.func23, Try.ntmps23
    go_wp2_with fail
    refine (drop_any g m _ (HW.out.fr0 ((Fr.refl _ _).alloc _)) hl).mono ?_
    rintro e w1 ⟨v, rfl, ho, hW, hf⟩
    clear hrun
    go_wp2_with fail
    go_ret3
    exact ⟨_, _, rfl, Sl.nil _ _ _, Sl.of_own ho, hW, ((Fr.refl (fun k => k = g) w).alloc _).trans hf⟩
  · simp only [show ¬ (4 = 0) by omega, show ¬ (4 = 1) by omega, show ¬ (4 = 2) by omega, show ¬ (4 = 3) by omega, ↓reduceIte]
    go_enter Try.func23, Try.ntmps23
    go_wp2_with fail
    refine (resize_any g m o.n _ (HW.out.fr0 ((Fr.refl _ _).alloc _))).mono ?_
    rintro e w1 ⟨rfl, hW, hf⟩
    clear hrun
    go_wp2_with fail
    go_ret3
    exact ⟨_, _, rfl, Sl.nil _ _ _, Sl.nil _ _ _, hW, ((Fr.refl (fun k => k = g) w).alloc _).trans hf⟩
end Go.Proofs.Ytbcconeebjmjdaa
