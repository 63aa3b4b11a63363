/- Arguments that come in: rows of bytes, slices of flat elements, read as lists. No condition. -/
import Derived.Test.YtnholkjgdpapbaaAgg
import Derived.OpenShut
import Derived.Deep.Slices
import Derived.Deep.Strs
namespace Go.Proofs.Ytnholkjgdpapbaa
open Go.RowKit Go.ChangeShapes Go.WideShapes Go.Deep

theorem Fr0.belowB {B : Nat} {a b : World} (h : Fr0 a b) (hB : B ≤ a.heap.size) : Below B a b := Fr.below h (fun _ hk => ⟨by omega, fun h => h⟩)
theorem Fr1.belowB {B g : Nat} {a b : World} (h : Fr1 g a b) (hB : B ≤ a.heap.size) (hg : B ≤ g) : Below B a b := Fr.below h (fun _ hk => ⟨by omega, fun h => by omega⟩)

/-- A slice that came in: n elements of sz cells each, all below block B; together they read xs. -/
structure Arg (w : World) (B : Nat) (A : Option Addr) (n c sz : Nat) (xs : List Value) : Prop where
  len : xs.length = n * sz
  cap : n ≤ c
  max : c ≤ maxLen
  at_ : 0 < n → ∃ b off, A = some ⟨b, off, none⟩ ∧ b < B ∧ ∀ j u, xs[j]? = some u → w.cell? ⟨b, off + j, none⟩ = some u

theorem Arg.below {w w' : World} {B : Nat} {A : Option Addr} {n c sz : Nat} {xs : List Value} (h : Arg w B A n c sz xs) (hb : Below B w w') : Arg w' B A n c sz xs :=
  ⟨h.len, h.cap, h.max, fun hn => by
    obtain ⟨b, off, hA, hlt, hx⟩ := h.at_ hn
    exact ⟨b, off, hA, hlt, fun j u hu => (hb.cell (p := ⟨b, off + j, none⟩) hlt).trans (hx j u hu)⟩⟩

theorem cells_of_cell {w : World} {b o : Nat} {v : Value} (h : w.cell? ⟨b, o, none⟩ = some v) : ∃ cur e fz, w.heap[b]? = some (Obj.cells cur e fz) ∧ cur[o]? = some v := by
  unfold World.cell? at h
  split at h
  · rename_i cur e fz heq
    exact ⟨cur, e, fz, heq, by simpa using h⟩
  · cases h

theorem ldA_of_cells {w : World} {b o : Nat} {l : List Value} (hpos : 0 < l.length) (h : ∀ j v, l[j]? = some v → w.cell? ⟨b, o + j, none⟩ = some v) : ldA w b o l.length = some l.toArray := by
  obtain ⟨cur, e, fz, hh, _⟩ := cells_of_cell (h 0 _ (List.getElem?_eq_getElem hpos))
  have hx : ∀ j v, l[j]? = some v → cur[o + j]? = some v := fun j v hv => by
    have := h j v hv
    simpa [World.cell?, hh] using this
  have hcur : o + l.length ≤ cur.size := by
    have h1 : l.length - 1 < l.length := by omega
    have := hx (l.length - 1) _ (List.getElem?_eq_getElem h1)
    have := (Array.getElem?_eq_some_iff.1 this).1
    omega
  simp only [ldA, hh, if_pos hcur]
  congr 1
  apply Array.ext
  · simp; omega
  · intro i h1 h2
    simp only [Array.size_extract] at h1
    have hi : i < l.length := by simpa using h2
    have := hx i _ (List.getElem?_eq_getElem hi)
    obtain ⟨_, hg⟩ := Array.getElem?_eq_some_iff.1 this
    simp only [Array.getElem_extract, List.getElem_toArray]
    rw [← hg]

theorem Arg.ldA {w : World} {B : Nat} {A : Option Addr} {n c sz k : Nat} {xs : List Value} (h : Arg w B A n c sz xs) (hk : k < n) (hsz : 0 < sz) :
    ∃ b off, A = some ⟨b, off, none⟩ ∧ b < B ∧ Proofs.Ytnholkjgdpapbaa.ldA w b (off + k * sz) sz = some ((xs.drop (k * sz)).take sz).toArray := by
  obtain ⟨b, off, hA, hlt, hx⟩ := h.at_ (by omega)
  have hlen : k * sz + sz ≤ xs.length := by
    rw [h.len]
    calc k * sz + sz = (k + 1) * sz := by rw [Nat.add_mul, Nat.one_mul]
      _ ≤ n * sz := Nat.mul_le_mul_right _ hk
  have hl : ((xs.drop (k * sz)).take sz).length = sz := by simp; omega
  refine ⟨b, off, hA, hlt, ?_⟩
  have := ldA_of_cells (w := w) (b := b) (o := off + k * sz) (l := (xs.drop (k * sz)).take sz) (by omega) (fun j v hv => by
    rw [List.getElem?_take] at hv
    split at hv
    · rw [List.getElem?_drop] at hv
      rw [Nat.add_assoc]; exact hx _ _ hv
    · cases hv)
  rwa [hl] at this

/-- The cells of element k. -/
theorem flat_cut {α : Type} (C : α → List Value) {sz : Nat} (hC : ∀ o, (C o).length = sz) (l : List α) (k : Nat) (h : k < l.length) : ((l.flatMap C).drop (k * sz)).take sz = C l[k] := by
  induction l generalizing k with
  | nil => simp at h
  | cons o l ih =>
    cases k with
    | zero => simp [hC]
    | succ k =>
      have := ih k (by simpa using h)
      simp only [List.flatMap_cons, List.getElem_cons_succ] at this ⊢
      rw [← this, List.drop_append]
      simp only [hC, show (k + 1) * sz - sz = k * sz by rw [Nat.add_mul]; omega, List.drop_of_length_le (show (C o).length ≤ (k + 1) * sz by rw [hC, Nat.add_mul]; omega), List.nil_append]
theorem flat_length {α : Type} (C : α → List Value) {sz : Nat} (hC : ∀ o, (C o).length = sz) (l : List α) : (l.flatMap C).length = l.length * sz := by
  induction l with
  | nil => simp
  | cons o l ih => simp [List.flatMap_cons, hC, ih, Nat.add_mul]; omega

section
variable {H : Type} {enc : TypeId × Value → H} {P : Program} {w : World} {base : Nat} {spare : Nat → Bool} {held : Bool}

theorem okWide_array {W : World} {r : Reach} {b0 : Nat} {t e : TypeId} {n : Nat} {v : Value} (ht : P.underlying t = some (.array n e)) (h : Value.okWide P W r b0 t v) : ∃ cs, v = .agg cs := by
  simp only [Value.okWide, ht] at h
  obtain ⟨cs, h1, _⟩ := h
  exact ⟨cs, h1⟩

theorem u8_of_wf {n : Int} (h : (Lit.int .u8 n).wf = true) : ∃ b : UInt8, Value.int .u8 n = u8 b := by
  have := bounds_u8 h
  refine ⟨UInt8.ofNat n.toNat, ?_⟩
  simp only [u8, Value.int.injEq, true_and, UInt8.toNat_ofNat']
  omega

theorem open_u8 {t : TypeId} {fuel : Nat} {cs : List Value} {x : DataW H × List MemPlace} (ht : P.underlying t = some (.int .u8)) (h : DataW.trod enc P w base spare held fuel t cs = some x) : ∃ b : UInt8, cs = [u8 b] := by
  obtain ⟨n, rfl, _, hw⟩ := DataW.trod_int ht h
  obtain ⟨b, hb⟩ := u8_of_wf hw
  exact ⟨b, by rw [hb]⟩

theorem open_byN {t e : TypeId} {n : Nat} {fuel : Nat} {cs : List Value} {x : DataW H × List MemPlace} (ht : P.underlying t = some (.array n e)) (he : P.underlying e = some (.int .u8)) (h1 : P.cellsOf e = 1) (hn : P.cellsOf t = n)
    (h : DataW.trod enc P w base spare held fuel t cs = some x) : ∃ b : By n, cs = bs b.1 := by
  obtain ⟨xs, m, _, _, hl, hxl, hx⟩ := DataW.trod_array ht h
  rw [hn] at hl
  have key : ∀ i, i < n → ∃ b : UInt8, cs[i]? = some (u8 b) := fun i hi => by
    have := hx i hi
    rw [List.getElem?_eq_getElem (by omega), h1, Nat.mul_one] at this
    obtain ⟨b, hb⟩ := open_u8 he this
    refine ⟨b, ?_⟩
    have h2 : ((cs.drop i).take 1)[0]? = some (u8 b) := by rw [hb]; rfl
    simpa [List.getElem?_take, List.getElem?_drop] using h2
  obtain ⟨f, hf⟩ := choose_lt (α := UInt8) (p := fun i b => cs[i]? = some (u8 b)) key
  refine ⟨⟨(List.range n).map f, by simp⟩, ?_⟩
  apply List.ext_getElem?
  intro i
  by_cases hi : i < n
  · rw [hf i hi]; simp [bs, hi]
  · rw [List.getElem?_eq_none (by omega), List.getElem?_eq_none (by simp; omega)]

theorem open_list {α : Type} [Inhabited α] {d : DataW H} {p : List MemPlace} (C : α → List Value) {t e : TypeId} {sz : Nat} {a : Option Addr} {len cap : Nat} (ht : P.underlying t = some (.slice e)) (hsz : P.cellsOf e = sz) (hC : ∀ o, (C o).length = sz) (hpos : 0 < sz)
    (hel : ∀ n cs x, DataW.trod enc P w base spare held n e cs = some x → ∃ o : α, cs = C o) (h : DataW.Trod enc P w base spare held t (.slice a len cap) d p) :
    ∃ l : List α, l.length = len ∧ Arg w w.heap.size a len cap sz (l.flatMap C) := by
  obtain ⟨fuel, hf⟩ := h
  rcases open_slice ht hf with ⟨hcs, _⟩ | ⟨x, l, c, m, n, D, Pl, hcs, _, hl, hm, hmm, _, hx⟩
  · simp [Value.cells] at hcs
    obtain ⟨rfl, rfl, rfl⟩ := hcs
    exact ⟨[], rfl, ⟨by simp, by omega, by unfold maxLen; omega, fun h => absurd h (by omega)⟩⟩
  · simp [Value.cells] at hcs
    obtain ⟨rfl, rfl, rfl⟩ := hcs
    have hlm : len ≤ m := by rw [hmm]; split <;> omega
    rw [hsz] at hx
    obtain ⟨f, hf⟩ := choose_lt (α := α) (p := fun i o => w.cells? base (x.add (i * sz)) sz = some (C o)) (fun i hi => by
      obtain ⟨cs', h1, h2⟩ := hx i (Nat.lt_of_lt_of_le hi hlm)
      obtain ⟨o, rfl⟩ := hel _ _ _ h2
      exact ⟨o, h1⟩)
    refine ⟨(List.range len).map f, by simp, ⟨by rw [flat_length C hC]; simp, hl, hm, fun hn => ?_⟩⟩
    obtain ⟨b, off, spot⟩ := x
    have hspot : spot = none := by
      obtain ⟨_, _, hc⟩ := World.cells?_some (hf 0 hn)
      have := hc 0 hpos
      rw [List.getElem?_eq_getElem (by rw [hC]; exact hpos)] at this
      simpa [Addr.add] using World.cell?_spot this
    subst hspot
    have hall : ∀ j u, (((List.range len).map f).flatMap C)[j]? = some u → w.cell? ⟨b, off + j, none⟩ = some u := fun j u hu => by
      have hj : j < len * sz := by
        have := (List.getElem?_eq_some_iff.1 hu).1
        rw [flat_length C hC] at this; simpa using this
      have hi : j / sz < len := (Nat.div_lt_iff_lt_mul hpos).2 hj
      have hr : j % sz < sz := Nat.mod_lt _ hpos
      have hj' : j / sz * sz + j % sz = j := by rw [Nat.mul_comm]; exact Nat.div_add_mod j sz
      obtain ⟨_, _, hc⟩ := World.cells?_some (hf (j / sz) hi)
      have h1 := hc (j % sz) hr
      have hcut := flat_cut C hC ((List.range len).map f) (j / sz) (by simpa using hi)
      have h2 : (C (f (j / sz)))[j % sz]? = some u := by
        have h3 : ((((List.range len).map f).flatMap C).drop (j / sz * sz)).take sz = C (f (j / sz)) := by rw [hcut]; simp
        rw [← h3, List.getElem?_take, if_pos hr, List.getElem?_drop, hj', hu]
      rw [h2] at h1
      rw [add_add, hj'] at h1
      by_cases hj0 : j = 0
      · subst hj0
        simpa [Addr.add] using h1
      · simpa [Addr.add, hj0] using h1
    refine ⟨b, off, rfl, ?_, hall⟩
    have h0 : 0 < (((List.range len).map f).flatMap C).length := by rw [flat_length C hC]; simp; exact Nat.mul_pos hn hpos
    obtain ⟨cur, e', fz, hh, _⟩ := cells_of_cell (hall 0 _ (List.getElem?_eq_getElem h0))
    exact heap_lt hh
end
end Go.Proofs.Ytnholkjgdpapbaa
