/- Arguments that come in: two rows of bytes in one array; slices of rows of 16 bytes. No condition. -/
import Derived.Test.YtnholkjgdpapbaaOpenB
namespace Go.Proofs.Ytnholkjgdpapbaa
set_option linter.unusedVariables false
open Go.RowKit Go.ChangeShapes Go.WideShapes Go.Deep
instance (n : Nat) : Inhabited (By n) := ⟨⟨List.replicate n 0, by simp⟩⟩
section
variable {H : Type} {enc : TypeId × Value → H} {P : Program} {w : World} {base : Nat} {spare : Nat → Bool} {held : Bool}
theorem open_twoN {t e f : TypeId} {n : Nat} {fuel : Nat} {cs : List Value} {x : DataW H × List MemPlace} (ht : P.underlying t = some (.array 2 e)) (he : P.underlying e = some (.array n f)) (hf : P.underlying f = some (.int .u8)) (h1 : P.cellsOf f = 1) (hn : P.cellsOf e = n) (h2 : P.cellsOf t = 2 * n)
    (h : DataW.trod enc P w base spare held fuel t cs = some x) : ∃ p q : By n, cs = bs p.1 ++ bs q.1 := by
  obtain ⟨xs, m, _, _, hl, hxl, hx⟩ := DataW.trod_array ht h
  rw [h2] at hl
  have key : ∀ i, i < 2 → ∃ b : By n, (cs.drop (i * n)).take n = bs b.1 := fun i hi => by
    have := hx i hi
    rw [List.getElem?_eq_getElem (by omega), hn] at this
    exact open_byN he hf h1 hn this
  obtain ⟨p, hp⟩ := key 0 (by omega)
  obtain ⟨q, hq⟩ := key 1 (by omega)
  refine ⟨p, q, ?_⟩
  rw [← hp, ← hq, Nat.zero_mul, List.drop_zero, Nat.one_mul, List.take_of_length_le (l := cs.drop n) (by rw [List.length_drop]; omega), List.take_append_drop]
end
end Go.Proofs.Ytnholkjgdpapbaa
