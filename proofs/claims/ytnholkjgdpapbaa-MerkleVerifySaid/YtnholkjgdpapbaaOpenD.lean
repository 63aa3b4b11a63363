/- Arguments that come in: a struct of a number, a row of bytes, a slice of rows of bytes. No condition. -/
import Derived.Test.YtnholkjgdpapbaaOpenC
namespace Go.Proofs.Ytnholkjgdpapbaa
set_option linter.unusedVariables false
open Go.RowKit Go.ChangeShapes Go.WideShapes Go.Deep
section
variable {H : Type} {enc : TypeId × Value → H} {P : Program} {w : World} {base : Nat} {spare : Nat → Bool} {held : Bool}
theorem open_sliceV {t e : TypeId} {fuel : Nat} {cs : List Value} {x : DataW H × List MemPlace} (ht : P.underlying t = some (.slice e)) (h : DataW.trod enc P w base spare held fuel t cs = some x) : ∃ A n c, cs = [.slice A n c] := by
  rcases open_slice ht h with ⟨hcs, _⟩ | ⟨x, l, c, m, n, D, Pl, hcs, _⟩
  · exact ⟨_, _, _, hcs⟩
  · exact ⟨_, _, _, hcs⟩
theorem open_claim {t e : TypeId} {f0 f1 f2 : Field} {u : TypeId} {n : Nat} (hn : 0 < n) {cs : Array Value} {d : DataW H} {p : List MemPlace} (ht : P.underlying t = some (.struct #[f0, f1, f2])) (hi : P.underlying f0.type = some (.int .i64)) (ha : P.underlying f1.type = some (.array n u)) (hu : P.underlying u = some (.int .u8)) (hs : P.underlying f2.type = some (.slice e)) (he : P.underlying e = some (.array n u))
    (o0 : f0.offset = 0) (o1 : f1.offset = 1) (o2 : f2.offset = n + 1) (c0 : P.cellsOf f0.type = 1) (c1 : P.cellsOf f1.type = n) (c2 : P.cellsOf f2.type = 1) (cu : P.cellsOf u = 1) (ce : P.cellsOf e = n) (ct : P.cellsOf t = n + 2)
    (h : DataW.Trod enc P w base spare held t (.agg cs) d p) : ∃ (i : Int) (x : By n) (A : Option Addr) (l : List (By n)) (c : Nat), cs = (([.int .i64 i] : List Value) ++ (bs x.1 ++ ([.slice A l.length c] : List Value))).toArray ∧ Arg w w.heap.size A l.length c n (l.flatMap fun o => bs o.1) := by
  obtain ⟨fuel, hf⟩ := h
  obtain ⟨y0, y1, y2, m, _, hl, h0, h1, h2⟩ := trod_struct3 ht hf
  obtain ⟨L, rfl⟩ : ∃ L : List Value, cs = L.toArray := ⟨cs.toList, by simp⟩
  simp only [Value.cells] at hl h0 h1 h2
  rw [o0, c0, List.drop_zero] at h0
  rw [o1, c1] at h1
  rw [o2, c2] at h2
  rw [ct] at hl
  obtain ⟨i, e0, _, _⟩ := DataW.trod_int hi h0
  obtain ⟨x, e1⟩ := open_byN ha hu cu c1 h1
  obtain ⟨A, k, c, e2⟩ := open_sliceV hs h2
  rw [e2] at h2
  obtain ⟨l, hlen, hA⟩ := open_list (P := P) (a := A) (len := k) (cap := c) (d := y2.1) (p := y2.2) (fun o : By n => bs o.1) hs ce (fun o => by simp [o.2]) hn (fun _ _ _ hh => open_byN he hu cu ce hh) ⟨m, h2⟩
  subst hlen
  refine ⟨i, x, A, l, c, ?_, hA⟩
  rw [← e0, ← e1, ← e2]
  congr 1
  have h3 : L.length = n + 2 := by simpa using hl
  rw [show n + 1 = 1 + n by omega, ← List.drop_drop, List.take_of_length_le (l := (L.drop 1).drop n) (by simp; omega), List.take_append_drop, List.take_append_drop]
end
end Go.Proofs.Ytnholkjgdpapbaa
