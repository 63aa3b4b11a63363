/- More rules for aggregates: new variables and array elements met by name; results that lie in memory. No condition. -/
import Derived.Test.YtnholkjgdpapbaaAggB
import Derived.Lib.Hide
namespace Go.Proofs.Ytnholkjgdpapbaa
set_option linter.unusedVariables false
open Go.RowKit

/-- Each of these takes one cell. -/
def one1 (cs : Array Value) : Bool := cs.all (·.oneCell')
/-- A new variable. -/
def al (T : TypeId) : Sem Value := Instr.alloc T true (.tuple #[])
/-- An element of an array value. -/
def idx (T : TypeId) (x i : Value) : Sem Value := Instr.index T x i
section
variable {P : Program} (w : World)
theorem run_al {T : TypeId} (h : (match P.info? T with | some i => i.zero.isSome | none => false) = true) :
    (al T).run P w = .ok (.pointer (some ⟨w.heap.size, 0, none⟩)) (w.alloc (.cells (zeroTail P T 0) T)) := by
  split at h
  · rename_i i hi
    obtain ⟨z, hz⟩ := Option.isSome_iff_exists.1 h
    have hzt : zeroTail P T 0 = z.cells := by simp [zeroTail, hi, hz]
    rw [hzt]
    unfold al Instr.alloc
    simp only [Sem.run_bind, zeroValue, typeInfo, run_program, hi, hz, Sem.run_pure, Result.andThen_ok]
    rfl
  · cases h
theorem run_idx {T e : TypeId} {n m : Nat} {d : TypeDesc} (hu : P.underlying T = some (.array n e)) (he : P.underlying e = some d) (hd : d.isRow = true) (hi : (P.info? e).map (·.size) = some m) (cs : Array Value) (k : IntKind) (i : Nat) (hn : i < n) :
    (idx T (.agg cs) (.int k (i : Int))).run P w = .ok (.agg (cs.extract (i * m) (i * m + m))) w := by
  obtain ⟨ie, hie, hsz⟩ : ∃ ie, P.info? e = some ie ∧ ie.size = m := by
    cases h : P.info? e with
    | none => simp [h] at hi
    | some ie => exact ⟨ie, rfl, by simpa [h] using hi⟩
  have h1 : (0 : Int) ≤ (i : Int) ∧ (i : Int) < (n : Int) := by omega
  unfold idx Instr.index
  simp only [Sem.run_bind, asIntOf, Sem.run_pure, Result.andThen_ok, run_underlying hu, h1, and_self, if_true, sizeOf, typeInfo, run_program, hie, hsz, Int.toNat_natCast]
  cases d <;> simp [TypeDesc.isRow] at hd <;> simp [part, isAgg, run_underlying he, sizeOf, typeInfo, hie, hsz]
end
/-- A whole block, stored anew at the end: it reads as the result, and the frame holds. -/
theorem fin_agg {w0 wr : World} {g n : Nat} {t : TypeId} {c0 cs : Array Value} (hB : Blk wr g t c0) (hF : Fr0 w0 wr) (hg : w0.heap.size ≤ g) (h0 : c0.size = n) (h1 : cs.size = n) :
    okA wr g 0 n = true ∧ ldA (putW wr g 0 cs) g 0 n = some cs ∧ Fr0 w0 (putW wr g 0 cs) := by
  refine ⟨hB.okA 0 n (by omega), ?_, hF.put (S := fun _ => False) (fun h => by omega) _ _⟩
  have h1' := (hB.put 0 cs).ldA 0 n (by rw [putAt_all _ _ (h0.trans h1.symm)]; omega)
  rw [h1', putAt_all _ _ (h0.trans h1.symm)]
  simp [← h1]
theorem fin_agg1 {w0 wr : World} {x g n : Nat} {t : TypeId} {c0 cs : Array Value} (hB : Blk wr g t c0) (hF : Fr1 x w0 wr) (hg : w0.heap.size ≤ g) (h0 : c0.size = n) (h1 : cs.size = n) :
    okA wr g 0 n = true ∧ ldA (putW wr g 0 cs) g 0 n = some cs ∧ Fr1 x w0 (putW wr g 0 cs) := by
  refine ⟨hB.okA 0 n (by omega), ?_, hF.put (fun h => by omega) _ _⟩
  have h1' := (hB.put 0 cs).ldA 0 n (by rw [putAt_all _ _ (h0.trans h1.symm)]; omega)
  rw [h1', putAt_all _ _ (h0.trans h1.symm)]
  simp [← h1]
theorem Blk.all {w : World} {g n : Nat} {t : TypeId} {cs : Array Value} (h : Blk w g t cs) (hn : cs.size = n) : Proofs.Ytnholkjgdpapbaa.ldA w g 0 n = some cs := by
  rw [h.ldA 0 n (by omega)]; simp [← hn]
theorem Blk.ok {w : World} {g n : Nat} {t : TypeId} {cs : Array Value} (h : Blk w g t cs) (hn : cs.size = n) : Proofs.Ytnholkjgdpapbaa.okA w g 0 n = true := h.okA 0 n (by omega)
theorem all_one {l : List Value} (h : ∀ u ∈ l, u.oneCell' = true) : one1 l.toArray = true := by simpa [one1] using h
@[simp] theorem extract_full {c : Array Value} {n : Nat} (h : c.size = n) : c.extract 0 n = c := by subst h; simp
/-- A name for a term; that it is the term stays hidden from the walk. -/
theorem nm {α : Sort _} (x : α) : ∃ y, RowKit.Hid (y = x) := ⟨x, Lib.hid rfl⟩
/-! What a frame keeps, as rules for the walk. -/
section
variable {S : Nat → Prop} {w w' : World}
theorem okA_fr (h : Fr0 w w') : ∀ b o n, b < w.heap.size → okA w' b o n = okA w b o n := fun b o n hb => by
  simp only [okA, h.block b hb (fun h => h)]
theorem ldA_fr (h : Fr0 w w') : ∀ b o n, b < w.heap.size → ldA w' b o n = ldA w b o n := fun b o n hb => by
  simp only [ldA, h.block b hb (fun h => h)]
theorem cell_fr (h : Fr0 w w') : ∀ (b o : Nat), b < w.heap.size → w'.cell? ⟨b, o, none⟩ = w.cell? ⟨b, o, none⟩ := fun b o hb => h.cell (p := ⟨b, o, none⟩) hb (fun h => h)
theorem frozen_fr (h : Fr0 w w') : ∀ (b o : Nat), b < w.heap.size → w'.frozen? ⟨b, o, none⟩ = w.frozen? ⟨b, o, none⟩ := fun b o hb => h.frozen (p := ⟨b, o, none⟩) hb (fun h => h)
end
theorem ldA_same {w : World} {b o n : Nat} {cs : Array Value} (h : okA w b o n = true) (hn : cs.size = n) : ldA (putW w b o cs) b o n = some cs := by
  unfold okA at h
  split at h
  · rename_i c e lo hi hh
    simp only [Bool.and_eq_true, decide_eq_true_eq] at h
    obtain ⟨hs, _⟩ := h
    simp only [ldA, putW_heap_same w b o cs c e _ hh]
    rw [if_pos (by rw [putAt_size _ _ _ (by omega)]; exact hs)]
    congr 1
    apply Array.ext_getElem?
    intro i
    rw [Array.getElem?_extract]
    by_cases hi : i < n
    · rw [if_pos (by rw [putAt_size _ _ _ (by omega)]; omega), putAt_get _ _ _ (by omega), if_neg (by omega), if_pos (by omega)]
      congr 1; omega
    · rw [if_neg (by rw [putAt_size _ _ _ (by omega)]; omega), Array.getElem?_eq_none (by omega)]
  · cases h
theorem okA_same {w : World} {b o n b' o' : Nat} {cs : Array Value} (h : okA w b o cs.size = true) : okA (putW w b o cs) b' o' n = okA w b' o' n := by
  unfold okA at h
  split at h
  · rename_i c e lo hi hh
    simp only [Bool.and_eq_true, decide_eq_true_eq] at h
    obtain ⟨hs, _⟩ := h
    by_cases hb : b' = b
    · subst hb
      simp only [okA, putW_heap_same w b' o cs c e _ hh, hh, putAt_size _ _ _ hs]
    · simp only [okA, putW_heap_other w b o cs b' hb]
  · cases h
theorem ldA_cell {w : World} {b o n i : Nat} {cs : Array Value} (h : ldA w b o n = some cs) (hi : i < n) : w.cell? ⟨b, o + i, none⟩ = cs[i]? := by
  unfold ldA at h
  split at h
  · rename_i c e f hh
    split at h
    · rename_i hle
      injection h with h
      subst h
      rw [Array.getElem?_extract, if_pos (show i < min (o + n) c.size - o by omega)]
      simp [World.cell?, hh]
    · cases h
  · cases h
end Go.Proofs.Ytnholkjgdpapbaa
