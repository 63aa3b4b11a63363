/- Words for memory that the proofs of this seat share: byte arrays as values, blocks, slices that read as lists, frames. No condition. -/
import Derived.WalkKit
import Derived.BigQuiet
import Derived.Deep.AppendLies
import Derived.Maps.AppendAt
import Derived.Deep.Draws
import Derived.Lib.Hide
import Derived.Deep.RegionHeld3
import Derived.Deep.RegionHeldLaw
import Derived.Deep.RegionLaw
import Derived.Deep.DrawnRows
namespace Go.Proofs.Ytnholkjgdpapbaa
open Go.RowKit

/-- Frames: of what was there, only blocks in S may have turned. -/
structure Fr (S : Nat → Prop) (w w' : World) : Prop where
  os : w'.os = w.os
  tape : w'.tape = w.tape
  output : w'.output = w.output
  size : w.heap.size ≤ w'.heap.size
  block : ∀ k, k < w.heap.size → ¬ S k → w'.heap[k]? = w.heap[k]?

abbrev Fr0 (w w' : World) : Prop := Fr (fun _ => False) w w'
abbrev Fr1 (g : Nat) (w w' : World) : Prop := Fr (fun k => k = g) w w'

section
variable {S : Nat → Prop} {w w' a b c : World}
theorem Fr.refl (S : Nat → Prop) (w : World) : Fr S w w := ⟨rfl, rfl, rfl, Nat.le_refl _, fun _ _ _ => rfl⟩
theorem Fr.trans (h : Fr S a b) (k : Fr S b c) : Fr S a c :=
  ⟨k.os.trans h.os, k.tape.trans h.tape, k.output.trans h.output, Nat.le_trans h.size k.size, fun i hi hne => (k.block i (Nat.lt_of_lt_of_le hi h.size) hne).trans (h.block i hi hne)⟩
theorem Fr.mono {S' : Nat → Prop} (h : Fr S a b) (hs : ∀ k, k < a.heap.size → S k → S' k) : Fr S' a b := ⟨h.os, h.tape, h.output, h.size, fun i hi hn => h.block i hi (fun hk => hn (hs i hi hk))⟩
theorem Fr.of0 (h : Fr0 a b) : Fr S a b := h.mono (fun _ _ h => h.elim)
/-- A second step may write what S holds, or what is new since a. -/
theorem Fr.then_ {S' : Nat → Prop} (h : Fr S a b) (k : Fr S' b c) (hs : ∀ i, i < a.heap.size → S' i → S i) : Fr S a c :=
  ⟨k.os.trans h.os, k.tape.trans h.tape, k.output.trans h.output, Nat.le_trans h.size k.size, fun i hi hne => (k.block i (Nat.lt_of_lt_of_le hi h.size) (fun h' => hne (hs i hi h'))).trans (h.block i hi hne)⟩
theorem Fr.drew (h : Fr S a w) : Fr S a w.drew := ⟨h.os, h.tape, h.output, h.size, h.block⟩
theorem Fr.drewN (h : Fr S a w) (n : Nat) : Fr S a (w.drewN n) := ⟨h.os, h.tape, h.output, h.size, h.block⟩
theorem Fr.alloc (h : Fr S a w) (o : Obj) : Fr S a (w.alloc o) :=
  ⟨h.os, h.tape, h.output, Nat.le_trans h.size (by simp), fun i hi hne => (Below.heap_alloc w o i (Nat.lt_of_lt_of_le hi h.size)).trans (h.block i hi hne)⟩
theorem Fr.setCell (h : Fr S a w) {p : Addr} (hp : p.block < a.heap.size → S p.block) (u : Value) : Fr S a (w.setCell p u) :=
  ⟨h.os, h.tape, h.output, by simpa [World.setCell] using h.size, fun i hi hne => (Below.heap_setCell w p u i (by rintro rfl; exact hne (hp hi))).trans (h.block i hi hne)⟩
theorem Fr.of_grown {row : Option Nat} (h : a.grownBy b row) (hr : ∀ k, k < a.heap.size → some k = row → S k) : Fr S a b :=
  ⟨h.os, h.tape, h.output, h.size, fun i hi hne => h.block i hi (fun e => hne (hr i hi e))⟩
theorem Fr.below {B : Nat} (h : Fr S a b) (hB : ∀ k, k < B → k < a.heap.size ∧ ¬ S k) : Below B a b :=
  ⟨h.os, h.tape, h.output, h.size, fun i hi => h.block i (hB i hi).1 (hB i hi).2⟩
theorem Fr.of_below {B : Nat} (h : Below B a b) (hS : ∀ k, k < a.heap.size → ¬ S k → k < B) : Fr S a b :=
  ⟨h.os, h.tape, h.output, h.size, fun i hi hn => h.block i (hS i hi hn)⟩
theorem Fr0.below (h : Fr0 a b) : Below a.heap.size a b := Fr.below h (fun _ hk => ⟨hk, fun h => h⟩)
theorem Fr.cell (h : Fr S a b) {p : Addr} (hp : p.block < a.heap.size) (hn : ¬ S p.block) : b.cell? p = a.cell? p := World.cell?_of_block (w := a) (h.block p.block hp hn)
theorem Fr.frozen (h : Fr S a b) {p : Addr} (hp : p.block < a.heap.size) (hn : ¬ S p.block) : b.frozen? p = a.frozen? p := World.frozen?_of_block (w := a) (h.block p.block hp hn)
end

/-- Block g is just the cells cs of element type t, none of them frozen. -/
def Blk (w : World) (g : Nat) (t : TypeId) (cs : Array Value) : Prop := w.heap[g]? = some (.cells cs t (0, 0))

section
variable {w w' : World} {g : Nat} {t : TypeId} {cs : Array Value} {S : Nat → Prop}
theorem Blk.lt (h : Blk w g t cs) : g < w.heap.size := by
  rcases Nat.lt_or_ge g w.heap.size with hlt | hge
  · exact hlt
  · unfold Blk at h; rw [Array.getElem?_eq_none hge] at h; cases h
theorem Blk.cell (h : Blk w g t cs) (i : Nat) : w.cell? ⟨g, i, none⟩ = cs[i]? := cell_of_row w g i cs t (0, 0) h
theorem Blk.frozen (h : Blk w g t cs) (i : Nat) : w.frozen? ⟨g, i, none⟩ = false := by
  unfold Blk at h
  simp [World.frozen?, h]
theorem Blk.new (w : World) (t : TypeId) (cs : Array Value) : Blk (w.alloc (.cells cs t)) w.heap.size t cs := heap_alloc_new w _
theorem Blk.drew (h : Blk w g t cs) : Blk w.drew g t cs := h
theorem Blk.drewN (h : Blk w g t cs) (n : Nat) : Blk (w.drewN n) g t cs := h
theorem Blk.alloc (h : Blk w g t cs) (o : Obj) : Blk (w.alloc o) g t cs := (Below.heap_alloc w o g h.lt).trans h
theorem Blk.set_ (h : Blk w g t cs) (i : Nat) (u : Value) : Blk (w.setCell ⟨g, i, none⟩ u) g t (cs.setIfInBounds i u) := by
  unfold Blk at h ⊢
  simp [World.setCell, Array.getElem?_modify, h]
theorem Blk.far (h : Blk w g t cs) {p : Addr} (hp : g ≠ p.block) (u : Value) : Blk (w.setCell p u) g t cs := (Below.heap_setCell w p u g hp).trans h
theorem Blk.fr (h : Blk w g t cs) (hf : Fr S w w') (hg : ¬ S g) : Blk w' g t cs := (hf.block g h.lt hg).trans h
theorem Blk.below {B : Nat} (h : Blk w g t cs) (hb : Below B w w') (hg : g < B) : Blk w' g t cs := (hb.block g hg).trans h
end

/-- The slice value v has n elements of type E, each of sz cells; together they read xs. -/
def Sl (w : World) (E : TypeId) (sz : Nat) (v : Value) (n : Nat) (xs : List Value) : Prop :=
  xs.length = n * sz ∧ ∃ A c, v = .slice A n c ∧ n ≤ c ∧ c ≤ maxLen ∧
    (0 < n → ∃ b off cur fz, A = some ⟨b, off, none⟩ ∧ w.heap[b]? = some (Obj.cells cur E fz) ∧ ∀ j u, xs[j]? = some u → cur[off + j]? = some u)

section
variable {w w' : World} {E : TypeId} {sz n : Nat} {v : Value} {xs : List Value} {S : Nat → Prop}
theorem Sl.nil (w : World) (E : TypeId) (sz : Nat) : Sl w E sz (.slice none 0 0) 0 [] := ⟨by simp, none, 0, rfl, Nat.le_refl _, Nat.zero_le _, fun h => absurd h (by omega)⟩
theorem Sl.keep (h : Sl w E sz v n xs) (hk : ∀ (k : Nat) (cur : Array Value) (fz : Nat × Nat), w.heap[k]? = some (Obj.cells cur E fz) → w'.heap[k]? = w.heap[k]?) : Sl w' E sz v n xs := by
  obtain ⟨hl, A, c, rfl, hc, hm, hr⟩ := h
  refine ⟨hl, A, c, rfl, hc, hm, fun hn => ?_⟩
  obtain ⟨b, off, cur, fz, rfl, hh, hx⟩ := hr hn
  exact ⟨b, off, cur, fz, rfl, (hk _ _ _ hh).trans hh, hx⟩
theorem heap_lt {w : World} {k : Nat} {o : Obj} (h : w.heap[k]? = some o) : k < w.heap.size := by
  rcases Nat.lt_or_ge k w.heap.size with hlt | hge
  · exact hlt
  · rw [Array.getElem?_eq_none hge] at h; cases h
theorem Sl.fr (h : Sl w E sz v n xs) (hf : Fr S w w') (hS : ∀ (k : Nat) (cur : Array Value) (fz : Nat × Nat), S k → w.heap[k]? ≠ some (Obj.cells cur E fz)) : Sl w' E sz v n xs :=
  h.keep (fun k cur fz hk => hf.block k (heap_lt hk) (fun hs => hS k cur fz hs hk))
theorem Sl.fr0 (h : Sl w E sz v n xs) (hf : Fr0 w w') : Sl w' E sz v n xs := h.fr hf (fun _ _ _ hs => hs.elim)
/-- A block of another element type may have turned. -/
theorem Sl.fr1 {g : Nat} {t : TypeId} {cs : Array Value} (h : Sl w E sz v n xs) (hf : Fr1 g w w') (hb : Blk w g t cs) (hne : t ≠ E) : Sl w' E sz v n xs :=
  h.fr hf (by rintro k cur fz rfl hk; unfold Blk at hb; rw [hb] at hk; injection hk with hk; injection hk with _ hk; exact hne hk)
theorem Sl.drew (h : Sl w E sz v n xs) : Sl w.drew E sz v n xs := h
theorem Sl.drewN (h : Sl w E sz v n xs) (k : Nat) : Sl (w.drewN k) E sz v n xs := h
theorem Sl.alloc (h : Sl w E sz v n xs) (o : Obj) : Sl (w.alloc o) E sz v n xs := h.fr0 ((Fr.refl _ _).alloc o)
theorem Sl.of_own {base : Nat} (h : w.ownsRow base E sz v n xs) : Sl w E sz v n xs := by
  obtain ⟨hl, ⟨rfl, rfl⟩ | ⟨g, cap, cur, rfl, hg, hh, hnc, hcm, hcs, ht⟩⟩ := h
  · have : xs = [] := List.eq_nil_of_length_eq_zero (by simpa using hl)
    subst this
    exact Sl.nil w E sz
  · refine ⟨hl, _, _, rfl, hnc, hcm, fun hn => ⟨g, 0, cur, (0, 0), rfl, hh, fun j u hu => ?_⟩⟩
    have hj : j < n * sz := by
      rw [← hl]; exact (List.getElem?_eq_some_iff.1 hu).1
    rw [← ht, List.getElem?_take, if_pos hj] at hu
    simpa using hu
/-- The cells, read. -/
theorem Sl.form (h : Sl w E sz v n xs) : ∃ A c, v = .slice A n c ∧ n ≤ c ∧ c ≤ maxLen := by
  obtain ⟨_, A, c, hv, hc, hm, _⟩ := h
  exact ⟨A, c, hv, hc, hm⟩
theorem Sl.at_ {A : Option Addr} {c k : Nat} (h : Sl w E sz (.slice A n c) n xs) (hk : k < n) :
    ∃ b off, A = some ⟨b, off, none⟩ ∧ b < w.heap.size ∧ ∀ j u, xs[j]? = some u → w.cell? ⟨b, off + j, none⟩ = some u := by
  obtain ⟨_, A', c', hv, _, _, hr⟩ := h
  obtain ⟨b, off, cur, fz, rfl, hh, hx⟩ := hr (by omega)
  injection hv with hv
  exact ⟨b, off, hv, heap_lt hh, fun j u hu => by simp [World.cell?, hh]; exact hx j u hu⟩
end
theorem ret_int {k : IntKind} {a b : Int} (h : a = b) : Ending.returned (.int k a) = .returned (.int k b) := by rw [h]
theorem ret_bool {a b : Bool} (h : a = b) : Ending.returned (.bool a) = .returned (.bool b) := by rw [h]
end Go.Proofs.Ytnholkjgdpapbaa
