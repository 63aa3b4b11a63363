/- Arguments that come in: arrays of integers. No condition. -/
import Derived.Test.YtnholkjgdpapbaaOpen
namespace Go.Proofs.Ytnholkjgdpapbaa
set_option linter.unusedVariables false
open Go.RowKit Go.ChangeShapes Go.WideShapes Go.Deep
section
variable {H : Type} {enc : TypeId × Value → H} {P : Program} {w : World} {base : Nat} {spare : Nat → Bool} {held : Bool}
theorem open_intN {t e : TypeId} {n : Nat} {k : IntKind} {fuel : Nat} {cs : List Value} {x : DataW H × List MemPlace} (ht : P.underlying t = some (.array n e)) (he : P.underlying e = some (.int k)) (h1 : P.cellsOf e = 1) (hn : P.cellsOf t = n)
    (h : DataW.trod enc P w base spare held fuel t cs = some x) : ∃ l : List Int, l.length = n ∧ cs = l.map (Value.int k) ∧ ∀ z ∈ l, (Lit.int k z).wf = true := by
  obtain ⟨xs, m, _, _, hl, hxl, hx⟩ := DataW.trod_array ht h
  rw [hn] at hl
  have key : ∀ i, i < n → ∃ b : Int, cs[i]? = some (.int k b) ∧ (Lit.int k b).wf = true := fun i hi => by
    have := hx i hi
    rw [List.getElem?_eq_getElem (by omega), h1, Nat.mul_one] at this
    obtain ⟨b, hb, _, hw⟩ := DataW.trod_int he this
    refine ⟨b, ?_, hw⟩
    have h2 : ((cs.drop i).take 1)[0]? = some (.int k b) := by rw [hb]; rfl
    simpa [List.getElem?_take, List.getElem?_drop] using h2
  obtain ⟨f, hf⟩ := choose_lt (α := Int) (p := fun i b => cs[i]? = some (.int k b) ∧ (Lit.int k b).wf = true) key
  refine ⟨(List.range n).map f, by simp, ?_, ?_⟩
  · apply List.ext_getElem?
    intro i
    by_cases hi : i < n
    · rw [(hf i hi).1]; simp [hi]
    · rw [List.getElem?_eq_none (by omega), List.getElem?_eq_none (by simp; omega)]
  · intro z hz
    obtain ⟨i, hi, rfl⟩ := List.mem_map.1 hz
    exact (hf i (List.mem_range.1 hi)).2
end
theorem two_of {α : Type} {l : List α} (h : l.length = 2) : ∃ a b, l = [a, b] := by
  match l, h with
  | [a, b], _ => exact ⟨a, b, rfl⟩
theorem three_of {α : Type} {l : List α} (h : l.length = 3) : ∃ a b c, l = [a, b, c] := by
  match l, h with
  | [a, b, c], _ => exact ⟨a, b, c, rfl⟩
end Go.Proofs.Ytnholkjgdpapbaa
