/- More on slices that read as lists: cuts. No condition. -/
import Derived.Test.YtnholkjgdpapbaaAgg
namespace Go.Proofs.Ytnholkjgdpapbaa
open Go.RowKit

theorem Sl.cutFront {w : World} {E : TypeId} {sz n k : Nat} {A : Option Addr} {c : Nat} {xs : List Value} (h : Sl w E sz (.slice A n c) n xs) (hk : k ≤ n) : Sl w E sz (.slice A k c) k (xs.take (k * sz)) := by
  obtain ⟨hl, A', c', hv, hc, hm, hr⟩ := h
  injection hv with hA _ hcc
  subst hA; subst hcc
  refine ⟨?_, A, c, rfl, by omega, hm, fun h0 => ?_⟩
  · rw [List.length_take, hl]; exact Nat.min_eq_left (Nat.mul_le_mul_right _ hk)
  · obtain ⟨b, off, cur, fz, hA, hh, hx⟩ := hr (by omega)
    refine ⟨b, off, cur, fz, hA, hh, fun j u hu => hx j u ?_⟩
    rw [List.getElem?_take] at hu
    split at hu
    · exact hu
    · cases hu
theorem Sl.cutBack {w : World} {E : TypeId} {sz n k : Nat} {A : Option Addr} {c : Nat} {xs : List Value} (h : Sl w E sz (.slice A n c) n xs) (hk : k ≤ n) :
    Sl w E sz (.slice (if c = k then A else A.map (·.add (k * sz))) (n - k) (c - k)) (n - k) (xs.drop (k * sz)) := by
  obtain ⟨hl, A', c', hv, hc, hm, hr⟩ := h
  injection hv with hA _ hcc
  subst hA; subst hcc
  refine ⟨?_, _, _, rfl, by omega, by omega, fun h0 => ?_⟩
  · rw [List.length_drop, hl, Nat.sub_mul]
  · obtain ⟨b, off, cur, fz, hA, hh, hx⟩ := hr (by omega)
    subst hA
    rw [if_neg (by omega)]
    refine ⟨b, off + k * sz, cur, fz, by simp [Addr.add_mid], hh, fun j u hu => ?_⟩
    rw [List.getElem?_drop] at hu
    rw [Nat.add_assoc]; exact hx _ u hu
theorem Sl.bounds {w : World} {E : TypeId} {sz n : Nat} {A : Option Addr} {c : Nat} {xs : List Value} (h : Sl w E sz (.slice A n c) n xs) : n ≤ c ∧ c ≤ maxLen := by
  obtain ⟨_, A', c', hv, hc, hm, _⟩ := h
  injection hv with hA _ hcc
  subst hcc
  exact ⟨hc, hm⟩
/-- A store of whole cells into a row of the call's own. -/
theorem own_put {w : World} {base e sz n g cap : Nat} {xs : List Value} (h : w.ownsRow base e sz (.slice (some ⟨g, 0, none⟩) n cap) n xs) (o : Nat) (cs : Array Value) (ho : o + cs.size ≤ xs.length) :
    (putW w g o cs).ownsRow base e sz (.slice (some ⟨g, 0, none⟩) n cap) n (xs.take o ++ (cs.toList ++ xs.drop (o + cs.size))) := by
  obtain ⟨hl, ⟨h', _⟩ | ⟨g', cap', cur, hv, hg, hh, hnc, hcm, hcs, ht⟩⟩ := h
  · cases h'
  · injection hv with h1 _ h3
    injection h1 with h1
    injection h1 with h1
    subst h1; subst h3
    have hle : xs.length ≤ cur.size := by rw [hl, hcs]; exact Nat.mul_le_mul_right _ hnc
    refine ⟨?_, .inr ⟨g, cap, putAt cur o cs, rfl, hg, putW_heap_same w g o cs cur e (0, 0) hh, hnc, hcm, ?_, ?_⟩⟩
    · simp; omega
    · rw [putAt_size _ _ _ (by omega)]; exact hcs
    · apply List.ext_getElem?
      intro j
      have hx : ∀ j, j < n * sz → xs[j]? = cur[j]? := fun j hj => by rw [← ht, List.getElem?_take, if_pos hj]; simp
      rw [List.getElem?_take, Array.getElem?_toList, putAt_get _ _ _ (by omega)]
      have htl : (xs.take o).length = o := by rw [List.length_take]; omega
      by_cases hj : j < n * sz
      · rw [if_pos hj]
        by_cases j1 : j < o
        · rw [if_pos j1, List.getElem?_append_left (by omega), List.getElem?_take, if_pos j1, hx j hj]
        · rw [if_neg j1, List.getElem?_append_right (by omega), htl]
          by_cases j2 : j < o + cs.size
          · rw [if_pos j2, List.getElem?_append_left (by simp; omega)]; simp
          · rw [if_neg j2, List.getElem?_append_right (by simp; omega), List.getElem?_drop]
            have : o + cs.size + (j - o - cs.toList.length) = j := by simp; omega
            rw [this, hx j hj]
      · rw [if_neg hj, List.getElem?_eq_none (by simp; omega)]
theorem own_okA {w : World} {base e sz n g cap : Nat} {xs : List Value} (h : w.ownsRow base e sz (.slice (some ⟨g, 0, none⟩) n cap) n xs) (o k : Nat) (ho : o + k ≤ xs.length) : okA w g o k = true := by
  obtain ⟨hl, ⟨h', _⟩ | ⟨g', cap', cur, hv, hg, hh, hnc, hcm, hcs, ht⟩⟩ := h
  · cases h'
  · injection hv with h1 _ h3
    injection h1 with h1
    injection h1 with h1
    subst h1; subst h3
    have hle : xs.length ≤ cur.size := by rw [hl, hcs]; exact Nat.mul_le_mul_right _ hnc
    simp only [okA, hh]; simp; omega

/-! clear: met by name. -/
def clr (ats : Array TypeId) (ty : TypeId) (args : Array Value) : Sem Value := Builtin.clear_ ats ty args
@[go_sem ↓] theorem ex_clr (ats : Array TypeId) (ty : TypeId) (args : Array Value) : Builtin.clear_ ats ty args = clr ats ty args := rfl
theorem run_clr {P : Program} (w : World) {t e : TypeId} {size bytes : Nat} (hok : appOk P t e size bytes = true) (ty : TypeId) (hz : (match P.info? e with | some i => (match i.zero with | some z => z.cells.all (·.oneCell') | none => false) | none => false) = true)
    (b o n c : Nat) (hn : 0 < n) (h : okA w b o (n * size) = true) :
    ∃ cs : Array Value, cs.size = n * size ∧ (clr #[t] ty #[.slice (some ⟨b, o, none⟩) n c]).run P w = .ok (.tuple #[]) (putW w b o cs) := by
  unfold appOk at hok
  split at hok
  · rename_i e' i ht hi
    simp only [Bool.and_eq_true, beq_iff_eq, decide_eq_true_eq] at hok
    obtain ⟨⟨⟨⟨rfl, hzs⟩, hsz⟩, h0⟩, hby⟩ := hok
    cases hzz : i.zero with
    | none => simp [hzz] at hzs
    | some z =>
      have hzc : z.cells.size = size := by simpa [hzz] using hzs
      have hz1 : z.cells.all (·.oneCell') = true := by simpa [hi, hzz] using hz
      have hsz' : (Builtin.zeroCells z.cells n).size = n * size := by rw [size_zeroCells, hzc]
      refine ⟨Builtin.zeroCells z.cells n, hsz', ?_⟩
      unfold okA at h
      split at h
      · rename_i cc ee lo hi' hh
        simp only [Bool.and_eq_true, decide_eq_true_eq] at h
        obtain ⟨hs, hf⟩ := h
        have hst := run_storeCells_cells (P := P) b o (Builtin.zeroCells z.cells n).toList 0 w (fun j hj => by simp at hj; simp [World.cell?, hh]; omega) (fun j hj => by simp at hj; simp [World.frozen?, hh]; omega) (fun v hv => by
          simp only [Builtin.zeroCells, Array.toList_map, List.mem_map] at hv
          obtain ⟨j, hj, rfl⟩ := hv
          have hjm : j % z.cells.size < z.cells.size := Nat.mod_lt _ (by omega)
          rw [getElem!_pos z.cells _ hjm]
          exact (Array.all_eq_true.1 hz1) _ hjm)
        simp only [Nat.add_zero] at hst
        rw [setCells_putW b _ o w cc ee _ hh (by simp [hsz']; omega)] at hst
        rw [Array.toArray_toList] at hst
        obtain ⟨n, rfl⟩ : ∃ k, n = k + 1 := ⟨n - 1, by omega⟩
        unfold clr Builtin.clear_
        simp [run_underlying ht, zeroValue, typeInfo, hi, hzz, hst]
      · simp at h
  · cases hok

/-- An array literal. -/
theorem run_bd_arr {P : Program} (w : World) {T e : TypeId} {n : Nat} {i ie : TypeInfo} {z : Value} (hu : P.underlying T = some (.array n e)) (hi : P.info? T = some i) (hz : i.zero = some z) (he : P.info? e = some ie)
    (parts : Array (Nat × Value)) (hc : Consec (fun k => some (k * ie.size, ie.size)) 0 parts.toList) (hs : (partsCells parts.toList).size ≤ z.cells.size) :
    (bd T parts).run P w = .ok (.agg (partsCells parts.toList ++ z.cells.extract (partsCells parts.toList).size z.cells.size)) w := by
  have hf := fill_consec _ parts.toList #[] z.cells hc hs
  simp only [Array.empty_append] at hf
  unfold bd Instr.build
  simp only [Sem.run_bind, zeroValue, sizeOf, typeInfo, run_program, hi, hz, he, Sem.run_pure, Result.andThen_ok, run_underlying hu, hf]
end Go.Proofs.Ytnholkjgdpapbaa
