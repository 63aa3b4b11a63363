/- Whole aggregates out of and into memory, without unrolling: loads, stores, new variables; rules for the walk. No condition. -/
import Derived.Test.YtnholkjgdpapbaaIds
namespace Go.Proofs.Ytnholkjgdpapbaa
open Go.RowKit

/-- The n cells of block b from offset o on. -/
def ldA (w : World) (b o n : Nat) : Option (Array Value) :=
  match w.heap[b]? with
  | some (.cells c _ _) => if o + n ≤ c.size then some (c.extract o (o + n)) else none
  | _ => none
/-- May n cells of block b from offset o on be written? -/
def okA (w : World) (b o n : Nat) : Bool :=
  match w.heap[b]? with
  | some (.cells c _ (lo, hi)) => decide (o + n ≤ c.size) && decide (hi ≤ o ∨ o + n ≤ lo ∨ hi ≤ lo)
  | _ => false
def putAt (c : Array Value) (o : Nat) (cs : Array Value) : Array Value := c.extract 0 o ++ cs ++ c.extract (o + cs.size) c.size
/-- The world behind a store of the cells cs at offset o of block b. -/
def putW (w : World) (b o : Nat) (cs : Array Value) : World :=
  { w with heap := w.heap.modify b fun | .cells c e f => .cells (putAt c o cs) e f | x => x }

theorem world_ext {a b : World} (h1 : a.heap = b.heap) (h2 : a.tape = b.tape) (h3 : a.drawn = b.drawn) (h4 : a.os = b.os) (h5 : a.output = b.output) : a = b := by
  cases a; cases b; simp_all
@[simp] theorem putAt_size (c : Array Value) (o : Nat) (cs : Array Value) (h : o + cs.size ≤ c.size) : (putAt c o cs).size = c.size := by simp [putAt]; omega
theorem putAt_get (c : Array Value) (o : Nat) (cs : Array Value) (h : o + cs.size ≤ c.size) (i : Nat) : (putAt c o cs)[i]? = if i < o then c[i]? else if i < o + cs.size then cs[i - o]? else c[i]? := by
  unfold putAt
  by_cases h1 : i < o
  · rw [if_pos h1, Array.append_assoc, Array.getElem?_append_left (by simp; omega)]
    simp [Array.getElem?_extract]; omega
  · rw [if_neg h1]
    by_cases h2 : i < o + cs.size
    · rw [if_pos h2, Array.append_assoc, Array.getElem?_append_right (by simp; omega), Array.getElem?_append_left (by simp; omega)]
      simp [Nat.min_eq_left (show o ≤ c.size by omega)]
    · rw [if_neg h2, Array.getElem?_append_right (by simp; omega)]
      simp only [Array.size_append, Array.size_extract, Nat.sub_zero, Nat.min_eq_left (show o ≤ c.size by omega), Array.getElem?_extract]
      have : o + cs.size + (i - (o + cs.size)) = i := by omega
      rw [this]
      by_cases h3 : i < c.size
      · rw [if_pos (by omega)]
      · rw [if_neg (by omega)]; rw [Array.getElem?_eq_none (by omega)]
@[simp] theorem putAt_all (c cs : Array Value) (h : c.size = cs.size) : putAt c 0 cs = cs := by simp [putAt, h]

section
variable (w : World) (b o n : Nat)
@[simp] theorem putW_size (cs : Array Value) : (putW w b o cs).heap.size = w.heap.size := by simp [putW]
theorem putW_heap_same (cs c : Array Value) (e : TypeId) (f : Nat × Nat) (h : w.heap[b]? = some (.cells c e f)) : (putW w b o cs).heap[b]? = some (.cells (putAt c o cs) e f) := by
  simp [putW, Array.getElem?_modify, h]
theorem putW_heap_other (cs : Array Value) (k : Nat) (h : k ≠ b) : (putW w b o cs).heap[k]? = w.heap[k]? := by
  simp only [putW, Array.getElem?_modify]; rw [if_neg (by omega)]
theorem alloc_heap_new (ob : Obj) : (w.alloc ob).heap[w.heap.size]? = some ob := by show (w.heap.push ob)[w.heap.size]? = _; simp
theorem alloc_heap_old (ob : Obj) (h : b < w.heap.size) : (w.alloc ob).heap[b]? = w.heap[b]? := Below.heap_alloc w ob b h

@[simp] theorem ldA_new (c : Array Value) (t : TypeId) (f : Nat × Nat) : ldA (w.alloc (.cells c t f)) w.heap.size o n = if o + n ≤ c.size then some (c.extract o (o + n)) else none := by
  simp only [ldA, alloc_heap_new]
@[simp] theorem ldA_new' (c : Array Value) (t : TypeId) (f : Nat × Nat) (h : b = w.heap.size) : ldA (w.alloc (.cells c t f)) b o n = if o + n ≤ c.size then some (c.extract o (o + n)) else none := by
  subst h; exact ldA_new w o n c t f
@[simp] theorem ldA_old (ob : Obj) (h : b < w.heap.size) : ldA (w.alloc ob) b o n = ldA w b o n := by simp only [ldA, alloc_heap_old w b ob h]
@[simp] theorem ldA_drew : ldA w.drew b o n = ldA w b o n := rfl
@[simp] theorem ldA_drewN (k : Nat) : ldA (w.drewN k) b o n = ldA w b o n := rfl
@[simp] theorem ldA_setCell (a : Addr) (v : Value) (h : b ≠ a.block) : ldA (w.setCell a v) b o n = ldA w b o n := by simp only [ldA, Below.heap_setCell w a v b h]
@[simp] theorem ldA_putW (b' o' : Nat) (cs : Array Value) (h : b ≠ b') : ldA (putW w b' o' cs) b o n = ldA w b o n := by simp only [ldA, putW_heap_other w b' o' cs b h]
@[simp] theorem okA_new (c : Array Value) (t : TypeId) : okA (w.alloc (.cells c t)) w.heap.size o n = decide (o + n ≤ c.size) := by
  simp only [okA, alloc_heap_new]; simp
@[simp] theorem okA_new' (c : Array Value) (t : TypeId) (h : b = w.heap.size) : okA (w.alloc (.cells c t)) b o n = decide (o + n ≤ c.size) := by
  subst h; exact okA_new w o n c t
@[simp] theorem okA_old (ob : Obj) (h : b < w.heap.size) : okA (w.alloc ob) b o n = okA w b o n := by simp only [okA, alloc_heap_old w b ob h]
@[simp] theorem okA_drew : okA w.drew b o n = okA w b o n := rfl
@[simp] theorem okA_drewN (k : Nat) : okA (w.drewN k) b o n = okA w b o n := rfl
@[simp] theorem okA_setCell (a : Addr) (v : Value) (h : b ≠ a.block) : okA (w.setCell a v) b o n = okA w b o n := by simp only [okA, Below.heap_setCell w a v b h]
@[simp] theorem okA_putW (b' o' : Nat) (cs : Array Value) (h : b ≠ b') : okA (putW w b' o' cs) b o n = okA w b o n := by simp only [okA, putW_heap_other w b' o' cs b h]

@[simp] theorem putW_new (c cs : Array Value) (t : TypeId) (f : Nat × Nat) : putW (w.alloc (.cells c t f)) w.heap.size o cs = w.alloc (.cells (putAt c o cs) t f) := by
  refine world_ext ?_ rfl rfl rfl rfl
  have e1 : ∀ ob : Obj, (w.alloc ob).heap = w.heap.push ob := fun _ => rfl
  simp only [putW, e1]
  apply Array.ext
  · simp
  · intro i h1 h2
    simp only [Array.getElem_modify, Array.getElem_push]
    by_cases hi : w.heap.size = i
    · subst hi; simp
    · have hl : i < w.heap.size := by simp at h2; omega
      rw [if_neg hi, dif_pos hl, dif_pos hl]
@[simp] theorem putW_new' (c cs : Array Value) (t : TypeId) (f : Nat × Nat) (h : b = w.heap.size) : putW (w.alloc (.cells c t f)) b o cs = w.alloc (.cells (putAt c o cs) t f) := by
  subst h; exact putW_new w o c cs t f
@[simp] theorem putW_old (ob : Obj) (cs : Array Value) (h : b < w.heap.size) : putW (w.alloc ob) b o cs = (putW w b o cs).alloc ob := by
  refine world_ext ?_ rfl rfl rfl rfl
  have e1 : ∀ (w : World) (ob : Obj), (w.alloc ob).heap = w.heap.push ob := fun _ _ => rfl
  simp only [putW, e1]
  apply Array.ext
  · simp
  · intro i h1 h2
    simp only [Array.getElem_modify, Array.getElem_push, Array.size_modify]
    by_cases hi : b = i
    · subst hi; simp [h]
    · simp [hi]
@[simp] theorem putW_drew (cs : Array Value) : putW w.drew b o cs = (putW w b o cs).drew := rfl
end

section
variable {w w' : World} {g : Nat} {t : TypeId} {cs : Array Value}
theorem Blk.ldA (h : Blk w g t cs) (o n : Nat) (hn : o + n ≤ cs.size) : ldA w g o n = some (cs.extract o (o + n)) := by
  unfold Blk at h; simp [Proofs.Ytnholkjgdpapbaa.ldA, h, hn]
theorem Blk.okA (h : Blk w g t cs) (o n : Nat) (hn : o + n ≤ cs.size) : okA w g o n = true := by
  unfold Blk at h; simp [Proofs.Ytnholkjgdpapbaa.okA, h, hn]
theorem Blk.put (h : Blk w g t cs) (o : Nat) (vs : Array Value) : Blk (putW w g o vs) g t (putAt cs o vs) := putW_heap_same w g o vs cs t (0, 0) h
theorem Blk.putFar (h : Blk w g t cs) {b : Nat} (hne : g ≠ b) (o : Nat) (vs : Array Value) : Blk (putW w b o vs) g t cs := (putW_heap_other w b o vs g hne).trans h
theorem Fr.put {S : Nat → Prop} {a : World} (h : Fr S a w) {b : Nat} (hp : b < a.heap.size → S b) (o : Nat) (vs : Array Value) : Fr S a (putW w b o vs) :=
  ⟨h.os, h.tape, h.output, by simpa using h.size, fun i hi hne => (putW_heap_other w b o vs i (by rintro rfl; exact hne (hp hi))).trans (h.block i hi hne)⟩
theorem Sl.ldA {E : TypeId} {sz n : Nat} {A : Option Addr} {c k : Nat} {xs : List Value} (h : Sl w E sz (.slice A n c) n xs) (hk : k < n) (hsz : 0 < sz) :
    ∃ b off, A = some ⟨b, off, none⟩ ∧ b < w.heap.size ∧ Proofs.Ytnholkjgdpapbaa.ldA w b (off + k * sz) sz = some ((xs.drop (k * sz)).take sz).toArray := by
  obtain ⟨hl, A', c', hv, _, _, hr⟩ := h
  obtain ⟨b, off, cur, fz, rfl, hh, hx⟩ := hr (by omega)
  injection hv with hv
  have hlen : k * sz + sz ≤ xs.length := by
    rw [hl]
    calc k * sz + sz = (k + 1) * sz := by rw [Nat.add_mul, Nat.one_mul]
      _ ≤ n * sz := Nat.mul_le_mul_right _ hk
  have hcur : off + k * sz + sz ≤ cur.size := by
    have h1 : k * sz + sz - 1 < xs.length := by omega
    have := hx (k * sz + sz - 1) _ (List.getElem?_eq_getElem h1)
    have := (Array.getElem?_eq_some_iff.1 this).1
    omega
  refine ⟨b, off, hv, heap_lt hh, ?_⟩
  simp only [Proofs.Ytnholkjgdpapbaa.ldA, hh, if_pos hcur]
  congr 1
  apply Array.ext
  · simp; omega
  · intro i h1 h2
    simp only [Array.size_extract] at h1
    have hi : k * sz + i < xs.length := by simp at h2; omega
    have := hx (k * sz + i) _ (List.getElem?_eq_getElem hi)
    obtain ⟨_, hg⟩ := Array.getElem?_eq_some_iff.1 this
    simp only [Array.getElem_extract, List.getElem_toArray, List.getElem_take, List.getElem_drop]
    rw [← hg]; congr 1; omega
end

/-! Rules for the walk: the operations on aggregates are met by name, and never unrolled. -/
def ld (T : TypeId) (p : Value) : Sem Value := Instr.loadAt T p
def st (T : TypeId) (p v : Value) : Sem Unit := Instr.storeAt T p v
def bd (T : TypeId) (parts : Array (Nat × Value)) : Sem Value := Instr.build T parts
def bsl (T : TypeId) (n : Nat) (parts : Array (Nat × Value)) : Sem Value := Instr.buildSlice T n parts
def eqv (T : TypeId) (x y : Value) : Sem Value := binOp .eql T x y
def nev (T : TypeId) (x y : Value) : Sem Value := binOp .neq T x y

section
variable {P : Program} (w : World)
theorem run_ld {T : TypeId} {d : TypeDesc} {n : Nat} (hu : P.underlying T = some d) (hd : d.isRow = true) (hi : (P.info? T).map (·.size) = some n) (b o : Nat) (h : (ldA w b o n).isSome = true) :
    (ld T (.pointer (some ⟨b, o, none⟩))).run P w = .ok (.agg ((ldA w b o n).getD #[])) w := by
  obtain ⟨cs, hcs⟩ := Option.isSome_iff_exists.1 h
  rw [hcs, Option.getD_some]
  unfold ldA at hcs
  split at hcs
  · rename_i c e f hh
    split at hcs
    · rename_i hle
      obtain rfl : c.extract o (o + n) = cs := by simpa using hcs
      have hr := run_loadAt_mid (P := P) w b o T (c.extract o (o + n)).toList d (fun j v hv => by
        have hj := (List.getElem?_eq_some_iff.1 hv).1
        simp only [Array.length_toList, Array.size_extract] at hj
        have : c[o + j]? = some v := by
          rw [Array.getElem?_toList, Array.getElem?_extract, if_pos (by omega)] at hv; exact hv
        simp [World.cell?, hh, this]) hu hd (by rw [hi]; simp; omega)
      rw [Array.toArray_toList] at hr
      exact hr
    · simp at hcs
  · simp at hcs

theorem setCells_putW (b : Nat) : ∀ (vs : List Value) (o : Nat) (w : World) (c : Array Value) (e : TypeId) (f : Nat × Nat), w.heap[b]? = some (.cells c e f) → o + vs.length ≤ c.size → w.setCells b o vs = putW w b o vs.toArray
  | [], o, w, c, e, f, h, hl => by
    refine world_ext ?_ rfl rfl rfl rfl
    apply Array.ext_getElem?
    intro k
    by_cases hk : k = b
    · subst hk; rw [putW_heap_same w k o _ c e f h]; simp only [World.setCells, h]; congr 2
      simp only [List.length_nil] at hl
      apply Array.ext_getElem?
      intro j
      rw [putAt_get _ _ _ (by simpa using hl)]; simp; intro _ h2; exact absurd h2 (by omega)
    · rw [putW_heap_other w b o _ k hk]; rfl
  | v :: r, o, w, c, e, f, h, hl => by
    simp only [List.length_cons] at hl
    have h1 : (w.setCell ⟨b, o, none⟩ v).heap[b]? = some (.cells (c.setIfInBounds o v) e f) := by simp [World.setCell, Array.getElem?_modify, h]
    rw [World.setCells, setCells_putW b r (o + 1) _ _ e f h1 (by simp; omega)]
    refine world_ext ?_ rfl rfl rfl rfl
    apply Array.ext_getElem?
    intro k
    by_cases hk : k = b
    · subst hk
      rw [putW_heap_same _ k _ _ _ e f h1, putW_heap_same w k o _ c e f h]
      congr 2
      apply Array.ext_getElem?
      intro j
      rw [putAt_get _ _ _ (by simp; omega), putAt_get _ _ _ (by simp; omega)]
      simp only [List.size_toArray, List.length_cons]
      by_cases j1 : j < o
      · rw [if_pos (by omega), if_pos j1, Array.getElem?_setIfInBounds, if_neg (by omega)]
      · by_cases j2 : j = o
        · subst j2
          rw [if_pos (by omega), if_neg (by omega), if_pos (by omega)]
          simp [show j < c.size by omega]
        · by_cases j3 : j < o + 1 + r.length
          · rw [if_neg (by omega), if_pos j3, if_neg j1, if_pos (by omega)]
            simp only [List.getElem?_toArray]
            rw [show j - o = (j - (o + 1)) + 1 by omega, List.getElem?_cons_succ]
          · rw [if_neg (by omega), if_neg j3, if_neg j1, if_neg (by omega), Array.getElem?_setIfInBounds, if_neg (by omega)]
    · rw [putW_heap_other _ b _ _ k hk, putW_heap_other w b o _ k hk, Below.heap_setCell _ _ _ _ hk]

theorem run_st {T : TypeId} (cs : Array Value) (hi : (P.info? T).map (·.size) = some cs.size) (h1 : cs.all (·.oneCell') = true) (b o : Nat) (h : okA w b o cs.size = true) :
    (st T (.pointer (some ⟨b, o, none⟩)) (.agg cs)).run P w = .ok () (putW w b o cs) := by
  unfold okA at h
  split at h
  · rename_i c e lo hi' hh
    simp only [Bool.and_eq_true, decide_eq_true_eq] at h
    obtain ⟨hs, hf⟩ := h
    have hr := run_storeAt_mid (P := P) w b o T cs (fun j hj => ⟨by simp [World.cell?, hh]; omega, by simp [World.frozen?, hh]; omega⟩) hi h1
    rw [setCells_putW b cs.toList o w c e _ hh (by simpa using hs)] at hr
    simpa [st] using hr
  · simp at h

/-- Parts that follow one another, each in its place. -/
def Consec (place : Nat → Option (Nat × Nat)) : Nat → List (Nat × Value) → Prop
  | _, [] => True
  | off, (i, v) :: r => place i = some (off, v.cells.size) ∧ Consec place (off + v.cells.size) r
def partsCells : List (Nat × Value) → Array Value
  | [] => #[]
  | (_, v) :: r => v.cells ++ partsCells r

theorem zipIdx_foldl (off : Nat) : ∀ (vs : List Value) (j : Nat) (pre mid post : Array Value), mid.size = vs.length → pre.size = off + j →
    (vs.zipIdx j).foldl (fun (cs : Array Value) (x : Value × Nat) => cs.setIfInBounds (off + x.2) x.1) (pre ++ mid ++ post) = pre ++ vs.toArray ++ post
  | [], j, pre, mid, post, hm, _ => by
    have : mid = #[] := Array.eq_empty_of_size_eq_zero (by simpa using hm)
    subst this; simp
  | v :: vs, j, pre, mid, post, hm, hp => by
    simp only [List.zipIdx_cons, List.foldl_cons]
    have hset : (pre ++ mid ++ post).setIfInBounds (off + j) v = (pre.push v) ++ mid.extract 1 mid.size ++ post := by
      simp only [List.length_cons] at hm
      apply Array.ext_getElem?
      intro k
      rw [Array.getElem?_setIfInBounds]
      simp only [Array.getElem?_append, Array.size_append, Array.size_push, Array.size_extract, Array.getElem?_push, Array.getElem?_extract]
      by_cases hk : off + j = k
      · rw [if_pos hk]; subst hk; simp [hp]; rw [if_pos (by omega), if_pos (by omega)]
      · rw [if_neg hk]
        by_cases k1 : k < pre.size
        · rw [if_pos (by omega), if_pos k1, if_pos (by omega), if_pos (by omega), if_neg (by omega)]
        · by_cases k2 : k < pre.size + mid.size
          · rw [if_pos k2, if_neg k1, if_pos (by omega), if_neg (by omega), if_pos (by omega)]
            congr 1; omega
          · rw [if_neg k2, if_neg (by omega)]; congr 1; omega
    rw [hset, zipIdx_foldl off vs (j + 1) (pre.push v) _ post (by simp only [List.length_cons] at hm; simp; omega) (by simp; omega)]
    congr 1
    rw [← Array.toList_inj]; simp

theorem fill_consec (place : Nat → Option (Nat × Nat)) : ∀ (parts : List (Nat × Value)) (pre z : Array Value), Consec place pre.size parts → (partsCells parts).size ≤ z.size →
    Instr.fill place (pre ++ z) parts = some (pre ++ partsCells parts ++ z.extract (partsCells parts).size z.size)
  | [], pre, z, _, hz => by
    simp [Instr.fill, partsCells]
  | (i, v) :: r, pre, z, hc, hz => by
    obtain ⟨h1, h2⟩ := hc
    simp only [partsCells, Array.size_append] at hz
    unfold Instr.fill
    simp only [h1]
    rw [if_neg (by simp; omega)]
    have hz' : pre ++ z = pre ++ z.extract 0 v.cells.size ++ z.extract v.cells.size z.size := by
      rw [Array.append_assoc]; congr 1; rw [← Array.toList_inj]; simp; rw [List.take_of_length_le (by simp; omega)]
    have hfold : Array.foldl (fun (cs : Array Value) (x : Value × Nat) => cs.setIfInBounds (pre.size + x.2) x.1) (pre ++ z) v.cells.zipIdx = pre ++ v.cells ++ z.extract v.cells.size z.size := by
      rw [hz', ← Array.foldl_toList, Array.toList_zipIdx]
      have := zipIdx_foldl pre.size v.cells.toList 0 pre (z.extract 0 v.cells.size) (z.extract v.cells.size z.size) (by simp; omega) (by simp)
      simpa using this
    have he : (Array.foldl (fun cs x => match x with | (c, j) => cs.setIfInBounds (pre.size + j) c) (pre ++ z) v.cells.zipIdx) = pre ++ v.cells ++ z.extract v.cells.size z.size := hfold
    rw [he, fill_consec place r (pre ++ v.cells) _ (by rw [Array.size_append]; exact h2) (by simp; omega)]
    congr 1
    simp only [partsCells, Array.size_append, Array.append_assoc]
    congr 3
    rw [← Array.toList_inj]
    simp
    omega

theorem run_sizes (fs : Array Field) (h : ∀ f ∈ fs, (P.info? f.type).isSome = true) :
    (fs.mapM (m := Sem) fun f => do pure (f.offset, ← sizeOf f.type)).run P w = .ok (fs.map fun f => (f.offset, ((P.info? f.type).map (·.size)).getD 0)) w := by
  obtain ⟨l⟩ := fs
  rw [List.mapM_toArray]
  have key : (l.mapM (m := Sem) fun f => do pure (f.offset, ← sizeOf f.type)).run P w = .ok (l.map fun f => (f.offset, ((P.info? f.type).map (·.size)).getD 0)) w := by
    induction l with
    | nil => rfl
    | cons f l ih =>
      obtain ⟨i, hi⟩ := Option.isSome_iff_exists.1 (h f (by simp))
      rw [List.mapM_cons]
      simp only [Sem.run_bind, sizeOf, typeInfo, run_program, hi, Sem.run_pure, Result.andThen_ok, List.map_cons, Option.map_some, Option.getD_some]
      simp only [sizeOf, typeInfo] at ih
      simp only [ih (fun g hg => h g (by simp at hg ⊢; exact .inr hg)), Result.andThen_ok]
  show Sem.run P ((l.mapM (m := Sem) fun f => do pure (f.offset, ← sizeOf f.type)) >>= (pure ∘ List.toArray)) w = _
  simp only [Sem.run_bind, key, Result.andThen_ok, Function.comp, Sem.run_pure, List.map_toArray]

/-- A struct literal that gives every field. -/
theorem run_bd_struct {T : TypeId} {fs : Array Field} {i : TypeInfo} {z : Value} (hu : P.underlying T = some (.struct fs)) (hi : P.info? T = some i) (hz : i.zero = some z) (hfs : ∀ f ∈ fs, (P.info? f.type).isSome = true)
    (parts : Array (Nat × Value)) (hc : Consec (fun k => (fs.map fun f => (f.offset, ((P.info? f.type).map (·.size)).getD 0))[k]?) 0 parts.toList) (hs : (partsCells parts.toList).size ≤ z.cells.size) :
    (bd T parts).run P w = .ok (.agg (partsCells parts.toList ++ z.cells.extract (partsCells parts.toList).size z.cells.size)) w := by
  have hf := fill_consec _ parts.toList #[] z.cells hc hs
  simp only [Array.empty_append] at hf
  unfold bd Instr.build
  simp only [Sem.run_bind, zeroValue, typeInfo, run_program, hi, hz, Sem.run_pure, Result.andThen_ok, run_underlying hu, run_sizes w fs hfs, hf]

/-- A slice literal that gives every element. -/
theorem run_bsl_all {T e : TypeId} {i : TypeInfo} {z : Value} (hu : P.underlying T = some (.slice e)) (hi : P.info? e = some i) (hz : i.zero = some z) (_ : z.cells.size = i.size) (h0 : 0 < i.size) (n : Nat) (hn : 0 < n) (hb : n * i.size ≤ 2 ^ 24)
    (parts : Array (Nat × Value)) (hc : Consec (fun k => some (k * i.size, i.size)) 0 parts.toList) (hs : n * i.size = (partsCells parts.toList).size) :
    (bsl T n parts).run P w = .ok (.slice (some ⟨w.heap.size, 0, none⟩) n n) (w.alloc (.cells (partsCells parts.toList) e)) := by
  have h1 : n * i.size ≠ 0 := by have := Nat.mul_pos hn h0; omega
  have hf : Instr.fill (fun k => some (k * i.size, i.size)) ((Array.range (n * i.size)).map (z.cells[· % z.cells.size]!)) parts.toList = some (partsCells parts.toList) := by
    have hf := fill_consec _ parts.toList #[] ((Array.range (n * i.size)).map (z.cells[· % z.cells.size]!)) hc (by simp [hs])
    rw [Array.empty_append] at hf
    rw [hf]
    congr 1
    rw [Array.empty_append]
    have : ((Array.range (n * i.size)).map (z.cells[· % z.cells.size]!)).extract (partsCells parts.toList).size ((Array.range (n * i.size)).map (z.cells[· % z.cells.size]!)).size = #[] := by
      apply Array.eq_empty_of_size_eq_zero; simp; omega
    rw [this, Array.append_empty]
  unfold bsl Instr.buildSlice
  simp only [Sem.run_bind, run_underlying hu, Result.andThen_ok, sizeOf, typeInfo, run_program, hi, Sem.run_pure, Sem.run_ite, zeroValue, hz]
  rw [if_neg (by omega)]
  rw [if_neg h1, hf]
  rfl

/-- What a literal's law asks of the program, reckoned: the places of the fields, and the zero value's cells from a place on. -/
def structOk (P : Program) (T : TypeId) (n : Nat) (pl : List (Nat × Nat)) : Bool :=
  match P.underlying T, P.info? T with
  | some (.struct fs), some i => (match i.zero with | some z => z.cells.size == n | none => false) && fs.toList.all (fun f => (P.info? f.type).isSome) && (fs.map fun f => (f.offset, ((P.info? f.type).map (·.size)).getD 0)).toList == pl
  | _, _ => false
def zeroTail (P : Program) (T : TypeId) (k : Nat) : Array Value :=
  match P.info? T with
  | some i => (match i.zero with | some z => z.cells.extract k z.cells.size | none => #[])
  | none => #[]
def sliceOk (P : Program) (T e : TypeId) (n : Nat) : Bool :=
  match P.underlying T, P.info? e with
  | some (.slice e'), some i => e' == e && (match i.zero with | some z => z.cells.size == n | none => false) && i.size == n && decide (0 < n) && decide (n ≤ 4096)
  | _, _ => false
theorem run_bd_tail {T : TypeId} {n : Nat} {pl : List (Nat × Nat)} (h : structOk P T n pl = true) (parts : Array (Nat × Value)) (hc : Consec (fun k => pl[k]?) 0 parts.toList) (hs : (partsCells parts.toList).size ≤ n) :
    (bd T parts).run P w = .ok (.agg (partsCells parts.toList ++ zeroTail P T (partsCells parts.toList).size)) w := by
  unfold structOk at h
  split at h
  · rename_i fs i hu hi
    simp only [Bool.and_eq_true, beq_iff_eq] at h
    obtain ⟨⟨hz, hf⟩, hp⟩ := h
    cases hzz : i.zero with
    | none => simp [hzz] at hz
    | some z =>
      have hzn : z.cells.size = n := by simpa [hzz] using hz
      have hzt : zeroTail P T (partsCells parts.toList).size = z.cells.extract (partsCells parts.toList).size z.cells.size := by simp [zeroTail, hi, hzz]
      rw [hzt]
      refine run_bd_struct w hu hi hzz (fun f hf' => ?_) parts ?_ (by rw [hzn]; exact hs)
      · rw [List.all_eq_true] at hf; exact hf f (by simpa using hf')
      · have he : ∀ k : Nat, (fs.map fun f => (f.offset, ((P.info? f.type).map (·.size)).getD 0))[k]? = pl[k]? := fun k => by rw [← hp, Array.getElem?_toList]
        simpa only [he] using hc
  · cases h
theorem run_bd_ok {T : TypeId} {n : Nat} {pl : List (Nat × Nat)} (h : structOk P T n pl = true) (parts : Array (Nat × Value)) (hc : Consec (fun k => pl[k]?) 0 parts.toList) (hs : n = (partsCells parts.toList).size) :
    (bd T parts).run P w = .ok (.agg (partsCells parts.toList)) w := by
  rw [run_bd_tail w h parts hc (by omega)]
  have : zeroTail P T (partsCells parts.toList).size = #[] := by
    unfold structOk at h
    split at h
    · rename_i fs i hu hi
      simp only [Bool.and_eq_true, beq_iff_eq] at h
      obtain ⟨⟨hz, hf⟩, hp⟩ := h
      cases hzz : i.zero with
      | none => simp [hzz] at hz
      | some z =>
        have hzn : z.cells.size = n := by simpa [hzz] using hz
        simp [zeroTail, hi, hzz]; omega
    · cases h
  rw [this, Array.append_empty]
theorem run_bsl_ok {T e : TypeId} {n : Nat} (h : sliceOk P T e n = true) (m : Nat) (hm : 0 < m) (hm' : m ≤ 4096) (parts : Array (Nat × Value)) (hc : Consec (fun k => some (k * n, n)) 0 parts.toList) (hs : m * n = (partsCells parts.toList).size) :
    (bsl T m parts).run P w = .ok (.slice (some ⟨w.heap.size, 0, none⟩) m m) (w.alloc (.cells (partsCells parts.toList) e)) := by
  unfold sliceOk at h
  split at h
  · rename_i e' i hu hi
    simp only [Bool.and_eq_true, beq_iff_eq, decide_eq_true_eq] at h
    obtain ⟨⟨⟨⟨rfl, hz⟩, hsz⟩, h0⟩, hn⟩ := h
    cases hzz : i.zero with
    | none => simp [hzz] at hz
    | some z =>
      subst hsz
      refine run_bsl_all w hu hi hzz (by simpa [hzz] using hz) h0 m hm ?_ parts hc hs
      calc m * i.size ≤ 4096 * 4096 := Nat.mul_le_mul hm' hn
        _ = 2 ^ 24 := rfl
  · cases h
end

/-! append: met by name; its law over slices that read as lists. -/
def app (ats : Array TypeId) (ty : TypeId) (args : Array Value) : Sem Value := Builtin.append_ ats ty args
@[go_sem ↓] theorem ex_app (ats : Array TypeId) (ty : TypeId) (args : Array Value) : Builtin.append_ ats ty args = app ats ty args := rfl

def appOk (P : Program) (t e : TypeId) (size bytes : Nat) : Bool :=
  match P.underlying t, P.info? e with
  | some (.slice e'), some i => e' == e && (match i.zero with | some z => z.cells.size == size | none => false) && i.size == size && decide (0 < size) && i.bytes == bytes
  | _, _ => false

section
variable {P : Program} (w : World)
theorem run_app_none (base : Nat) (t ty e : TypeId) (i : TypeInfo) (size : Nat) (ht : P.underlying t = some (.slice e)) (hi : P.info? e = some i)
    (v : Value) (n : Nat) (xs : List Value) (hown : w.ownsRow base e size v n xs) (c : Nat) : (Builtin.append_ #[t, t] ty #[v, .slice none 0 c]).run P w = .ok v w := by
  rcases hown.2 with ⟨rfl, rfl⟩ | ⟨g, cap, cur, rfl, _, _, hnc, _⟩
  · simp [Builtin.append_, run_underlying ht, sizeOf, typeInfo, hi, Builtin.lenOf, Builtin.firstCells]
  · simp [Builtin.append_, run_underlying ht, sizeOf, typeInfo, hi, Builtin.lenOf, Builtin.firstCells, hnc, storeCells]

theorem run_app {t e : TypeId} {size bytes : Nat} (hok : appOk P t e size bytes = true) (ty : TypeId) {base : Nat} {v : Value} {n : Nat} {xs : List Value} (hown : w.ownsRow base e size v n xs)
    {x : Value} {m : Nat} {news : List Value} (hr : Sl w e size x m news) (h1 : ∀ u ∈ news, u.oneCell' = true) (h63 : n + m ≤ maxLen) (hbytes : (n + m) * bytes ≤ 140737488355328) (hbase : base ≤ w.heap.size) :
    ∃ v' w', (app #[t, t] ty #[v, x]).run P w = .ok v' w' ∧ w'.ownsRow base e size v' (n + m) (xs ++ news) ∧ w.grownBy w' v.ownBlock ∧ (v'.ownBlock = v.ownBlock ∨ v'.ownBlock = some w.heap.size) := by
  unfold appOk at hok
  split at hok
  · rename_i e' i ht hi
    simp only [Bool.and_eq_true, beq_iff_eq, decide_eq_true_eq] at hok
    obtain ⟨⟨⟨⟨rfl, hz⟩, hsz⟩, h0⟩, hby⟩ := hok
    cases hzz : i.zero with
    | none => simp [hzz] at hz
    | some z =>
      obtain ⟨hl, A, c, rfl, hmc, hcm, hc⟩ := hr
      rcases A with _ | ad
      · have hm : m = 0 := by
          rcases Nat.eq_zero_or_pos m with h | h
          · exact h
          · obtain ⟨b, off, cur, fz, hA, _⟩ := hc h; cases hA
        subst hm
        have hn : news = [] := List.eq_nil_of_length_eq_zero (by simpa using hl)
        subst hn
        exact ⟨v, w, run_app_none w base t ty e' i size ht hi v n xs hown c, by simpa using hown, World.grownBy.refl w _, .inl rfl⟩
      · have hcells : ∀ j u, news[j]? = some u → w.cell? (ad.add j) = some u := by
          intro j u hu
          have hm : 0 < m := by
            rcases Nat.eq_zero_or_pos m with h | h
            · subst h
              have : news = [] := List.eq_nil_of_length_eq_zero (by simpa using hl)
              subst this; simp at hu
            · exact h
          obtain ⟨b, off, cur, fz, hA, hh, hx⟩ := hc hm
          injection hA with hA
          subst hA
          rw [Addr.add_mid]
          simp only [World.cell?, hh]
          exact hx j u hu
        obtain ⟨v', w', hrun, h2, h3, _, h5⟩ := run_append_own_at (P := P) w base t ty e' i z size bytes ht hi hzz hsz hby (by simpa [hzz] using hz) h0 v n xs hown ad m c news hl hcells h1 h63 hbytes hbase
        exact ⟨v', w', hrun, h2, h3, h5⟩
  · cases hok

theorem own_empty (e : TypeId) (size : Nat) : (w.alloc (.cells #[] e)).ownsRow w.heap.size e size (.slice (some ⟨w.heap.size, 0, none⟩) 0 0) 0 [] :=
  ⟨by simp, .inr ⟨w.heap.size, 0, #[], rfl, Nat.le_refl _, alloc_heap_new w _, Nat.le_refl _, Nat.zero_le _, by simp, by simp⟩⟩
theorem Fr.app {S : Nat → Prop} {a w w' : World} (h : Fr S a w) {v : Value} (hg : w.grownBy w' v.ownBlock) (hv : ∀ k, v.ownBlock = some k → k < a.heap.size → S k) : Fr S a w' :=
  h.then_ (Fr.of_grown (S := fun k => some k = v.ownBlock) hg (fun _ _ e => e)) (fun i hi e => hv i e.symm hi)
/-- Of something an owned row lies from its base on. -/
theorem own_ge {base e size n : Nat} {v : Value} {xs : List Value} (h : w.ownsRow base e size v n xs) (k : Nat) (hk : v.ownBlock = some k) : base ≤ k := (h.lt k hk).1

theorem own_fr {S : Nat → Prop} {w w' : World} {base e size n : Nat} {v : Value} {xs : List Value} (h : w.ownsRow base e size v n xs) (hf : Fr S w w') (hS : ∀ k, v.ownBlock = some k → ¬ S k) : w'.ownsRow base e size v n xs := by
  obtain ⟨hl, h2⟩ := h
  refine ⟨hl, ?_⟩
  rcases h2 with h2 | ⟨g, cap, cur, rfl, hg, hh, r⟩
  · exact .inl h2
  · exact .inr ⟨g, cap, cur, rfl, hg, (hf.block g (heap_lt hh) (hS g rfl)).trans hh, r⟩
theorem own_fr0 {w w' : World} {base e size n : Nat} {v : Value} {xs : List Value} (h : w.ownsRow base e size v n xs) (hf : Fr0 w w') : w'.ownsRow base e size v n xs := own_fr h hf (fun _ _ h => h)
theorem Sl.new (w : World) (E : TypeId) (sz n : Nat) (cs : List Value) (hl : cs.length = n * sz) (hn : n ≤ maxLen) : Sl (w.alloc (.cells cs.toArray E)) E sz (.slice (some ⟨w.heap.size, 0, none⟩) n n) n cs :=
  ⟨hl, _, _, rfl, Nat.le_refl _, hn, fun _ => ⟨w.heap.size, 0, _, _, rfl, alloc_heap_new w _, fun j u hu => by simpa using hu⟩⟩

theorem own_form {w : World} {base e size n : Nat} {v : Value} {xs : List Value} (h : w.ownsRow base e size v n xs) : ∃ A c, v = .slice A n c ∧ n ≤ c ∧ c ≤ maxLen := (Sl.of_own h).form
end

/-- append at a step of a region that draws its order. -/
theorem step_app {P : Program} {t e : TypeId} {size bytes : Nat} (hok : appOk P t e size bytes = true) {ops : Array Oper} {o : Oper} {a : Act} {w : World} {K : Act → World → Prop} {Q : Exit → Act → World → Prop} {E : Prop} (hgd : o.guard = none) (s x : Operand)
    (ho : o.op = .call { callee := .builtin .append, args := #[s, x], argTypes := #[t, t] }) {base : Nat} {v : Value} {n : Nat} {xs : List Value} (hs : a.eval s = v) (hown : w.ownsRow base e size v n xs)
    {xv : Value} {m : Nat} {news : List Value} (hx : a.eval x = xv) (hr : Sl w e size xv m news) (h1 : ∀ u ∈ news, u.oneCell' = true) (h63 : n + m ≤ maxLen) (hbytes : (n + m) * bytes ≤ 140737488355328) (hbase : base ≤ w.heap.size)
    (h : ∀ v' w', w'.ownsRow base e size v' (n + m) (xs ++ news) → w.grownBy w' v.ownBlock → (v'.ownBlock = v.ownBlock ∨ v'.ownBlock = some w.heap.size) → K (a.put o.dst v') w') :
    if Region.wanted o (yielded ops a.tmps) = true then Oper.wp P o a w K Q else E := by
  have hw : Region.wanted o (yielded ops a.tmps) = true := by simp [Region.wanted, hgd]
  rw [if_pos hw]
  obtain ⟨v', w', hrun, h2, h3, h5⟩ := run_app (P := P) w hok o.type hown hr h1 h63 hbytes hbase
  unfold app at hrun
  unfold Oper.wp execOp
  simp only [ho, resolve, invoke, builtin, Sem.run_bind, Sem.run_pure, Result.andThen_ok, List.map_toArray, List.map_cons, List.map_nil, hs, hx, hrun]
  exact h v' w' h2 h3 h5
section
variable {P : Program} (w : World)

theorem own_mono {w : World} {base base' e size n : Nat} {v : Value} {xs : List Value} (h : w.ownsRow base e size v n xs) (hb : base' ≤ base) : w.ownsRow base' e size v n xs := by
  obtain ⟨hl, h2 | ⟨g, cap, cur, hv, hg, r⟩⟩ := h
  · exact ⟨hl, .inl h2⟩
  · exact ⟨hl, .inr ⟨g, cap, cur, hv, Nat.le_trans hb hg, r⟩⟩

theorem Blk.range {w : World} {g : Nat} {t : TypeId} {cs : List Value} (h : Blk w g t cs.toArray) : w.rangeAt g 0 cs := fun j v hv => by
  rw [h.cell]; simpa using hv

theorem cell_alloc {w : World} {a : Addr} {v : Value} (h : w.cell? a = some v) (ob : Obj) : (w.alloc ob).cell? a = some v := by
  rw [World.cell?_alloc_lt _ _ _ (World.block_lt_of_cell? w _ h)]; exact h
theorem frozen_alloc {w : World} {a : Addr} {v : Value} (h : w.cell? a = some v) (hf : w.frozen? a = false) (ob : Obj) : (w.alloc ob).frozen? a = false := by
  rw [World.frozen?_of_block (w := w) (Below.heap_alloc w ob a.block (World.block_lt_of_cell? w _ h))]; exact hf
end

/-! Results that lie in memory. -/
section
variable {P : Program} {w : World}
theorem run_loadVar_ldA {T : TypeId} {d : TypeDesc} {n : Nat} (hu : P.underlying T = some d) (hd : d.isRow = true) (hi : (P.info? T).map (·.size) = some n) {b o : Nat} {cs : Array Value} (h : ldA w b o n = some cs) :
    (loadVar T ⟨b, o, none⟩).run P w = .ok (.agg cs) w := by
  have := run_ld (P := P) w hu hd hi b o (by rw [h]; rfl)
  rw [h, Option.getD_some] at this
  simpa [ld, Instr.loadAt, Instr.sureAddr] using this
theorem results_cell_one {fn : Func} {p : Tmp} {ty : TypeId} (h : fn.results = #[.cell p ty]) (tmps : Array Value) (P : Program) (w : World) :
    (results fn tmps).run P w = ((asAddr (tmps.getD p undef)).run P w).andThen fun a w₁ => (loadVar ty a).run P w₁ := by
  simp only [results, h]
  simp [Sem.run_bind, Result.andThen]
theorem bodyPost_agg {fn : Func} {p : Tmp} {T : TypeId} {d : TypeDesc} {n : Nat} (h : fn.results = #[.cell p T]) (hu : P.underlying T = some d) (hd : d.isRow = true) (hi : (P.info? T).map (·.size) = some n)
    {R : Ending → World → Prop} {a : Act} {b o : Nat} {cs : Array Value} (ht : a.tmps.getD p undef = .pointer (some ⟨b, o, none⟩)) (hl : ldA w b o n = some cs) (hd0 : a.defers = []) (hR : R (.returned (.agg cs)) w) : bodyPost P fn R .ret a w := by
  refine bodyPost_ret (v := .agg cs) ?_ hd0 hR
  rw [results_cell_one h, ht]
  simp [asAddr, run_loadVar_ldA hu hd hi hl]
theorem bodyPost_agg2 {fn : Func} {p u : Tmp} {T : TypeId} {d : TypeDesc} {n : Nat} (h : fn.results = #[.cell p T, .tmp u]) (hu : P.underlying T = some d) (hd : d.isRow = true) (hi : (P.info? T).map (·.size) = some n)
    {R : Ending → World → Prop} {a : Act} {b o : Nat} {cs : Array Value} (ht : a.tmps.getD p undef = .pointer (some ⟨b, o, none⟩)) (hl : ldA w b o n = some cs) (hd0 : a.defers = []) (hR : R (.returned (.tuple #[.agg cs, a.tmps.getD u undef])) w) : bodyPost P fn R .ret a w := by
  refine bodyPost_ret (v := .tuple #[.agg cs, a.tmps.getD u undef]) ?_ hd0 hR
  rw [results_cell_tmp h, ht]
  simp [asAddr, run_loadVar_ldA hu hd hi hl]
end
end Go.Proofs.Ytnholkjgdpapbaa
