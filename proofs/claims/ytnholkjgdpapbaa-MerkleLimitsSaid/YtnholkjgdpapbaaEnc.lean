/- Aggregates as values that the walk never opens: an encoding of a type of Lean's by n cells; loads, stores, boxes, literals, equality by it; slices of such elements; append. No condition. -/
import Derived.Test.YtnholkjgdpapbaaAggC
import Derived.Test.YtnholkjgdpapbaaOpen
import Derived.Test.YtnholkjgdpapbaaBytes
namespace Go.Proofs.Ytnholkjgdpapbaa
set_option linter.unusedVariables false
set_option linter.unusedSimpArgs false
set_option linter.unusedSectionVars false
set_option maxRecDepth 10000
open Go.RowKit

@[simp] theorem lt_s2 (n : Nat) : n < n + 1 + 1 := by omega
@[simp] theorem lt_s3 (n : Nat) : n < n + 1 + 1 + 1 := by omega
@[simp] theorem lt_s4 (n : Nat) : n < n + 1 + 1 + 1 + 1 := by omega
@[simp] theorem lt_s5 (n : Nat) : n < n + 1 + 1 + 1 + 1 + 1 := by omega
@[simp] theorem lt_s6 (n : Nat) : n < n + 1 + 1 + 1 + 1 + 1 + 1 := by omega
@[simp] theorem ne_s2 (n : Nat) : ¬ n = n + 1 + 1 := by omega
@[simp] theorem ne_s3 (n : Nat) : ¬ n = n + 1 + 1 + 1 := by omega
@[simp] theorem ne_s4 (n : Nat) : ¬ n = n + 1 + 1 + 1 + 1 := by omega
@[simp] theorem ne_s5 (n : Nat) : ¬ n = n + 1 + 1 + 1 + 1 + 1 := by omega

structure Enc (α : Type) (n : Nat) where
  f : α → List Value
  len : ∀ a, (f a).length = n
  inj : ∀ a b, f a = f b → a = b
  one : ∀ a, ∀ u ∈ f a, u.oneCell' = true
namespace Enc
variable {α : Type} {n : Nat} (E : Enc α n)
/-- The value of a. -/
def v (a : α) : Value := .agg (E.f a).toArray
open Classical in
/-- What stands in block b from cell o on. -/
noncomputable def at_ (w : World) (b o : Nat) : Option α := if h : ∃ a, ldA w b o n = some (E.f a).toArray then some h.choose else none
/-- The world behind a store. -/
def put (w : World) (b o : Nat) (a : α) : World := putW w b o (E.f a).toArray
/-- The world behind a new variable. -/
def new (T : TypeId) (w : World) (a : α) : World := w.alloc (.cells (E.f a).toArray T)
def newL (T : TypeId) (w : World) (l : List α) : World := w.alloc (.cells (l.flatMap E.f).toArray T)
theorem size (a : α) : (E.f a).toArray.size = n := by simp [E.len]
theorem at_of {w : World} {b o : Nat} {a : α} (h : ldA w b o n = some (E.f a).toArray) : E.at_ w b o = some a := by
  have hx : ∃ a, ldA w b o n = some (E.f a).toArray := ⟨a, h⟩
  unfold at_
  rw [dif_pos hx]
  congr 1
  have := h.symm.trans hx.choose_spec
  injection this with this
  exact (E.inj _ _ (by simpa using this)).symm
theorem ldA_of {w : World} {b o : Nat} {a : α} (h : E.at_ w b o = some a) : ldA w b o n = some (E.f a).toArray := by
  unfold at_ at h
  split at h
  · rename_i hx
    injection h with h
    subst h
    exact hx.choose_spec
  · cases h
theorem at_congr {w w' : World} {b o : Nat} (h : ldA w' b o n = ldA w b o n) : E.at_ w' b o = E.at_ w b o := by
  unfold at_; rw [h]
variable {S : Nat → Prop} {w w' : World} {b o : Nat}
theorem at_fr (h : Fr0 w w') : ∀ b o, b < w.heap.size → E.at_ w' b o = E.at_ w b o := fun b o hb => E.at_congr (ldA_fr h b o n hb)
theorem at_frS (h : Fr S w w') : ∀ b o, b < w.heap.size → ¬ S b → E.at_ w' b o = E.at_ w b o := fun b o hb hs => E.at_congr (by simp only [ldA, h.block b hb hs])
theorem at_lt {a : α} (h : E.at_ w b o = some a) : b < w.heap.size := by
  have := E.ldA_of h
  unfold ldA at this
  split at this
  · rename_i hh; exact heap_lt hh
  · cases this
@[simp] theorem new_size (T : TypeId) (a : α) : (E.new T w a).heap.size = w.heap.size + 1 := by simp [new]
@[simp] theorem newL_size (T : TypeId) (l : List α) : (E.newL T w l).heap.size = w.heap.size + 1 := by simp [newL]
@[simp] theorem put_size (a : α) : (E.put w b o a).heap.size = w.heap.size := by simp [put]
@[simp] theorem at_new (T : TypeId) (a : α) : E.at_ (E.new T w a) w.heap.size 0 = some a := E.at_of (by
  unfold new
  rw [ldA_new, if_pos (by rw [E.size]; omega)]
  rw [Nat.zero_add, extract_full (E.size a)])
@[simp] theorem at_new' (T : TypeId) (a : α) (h : b = w.heap.size) : E.at_ (E.new T w a) b 0 = some a := by subst h; exact E.at_new T a
@[simp] theorem at_drew : E.at_ w.drew b o = E.at_ w b o := rfl
@[simp] theorem at_drewN (k : Nat) : E.at_ (w.drewN k) b o = E.at_ w b o := rfl
@[simp] theorem at_alloc (ob : Obj) (h : b < w.heap.size) : E.at_ (w.alloc ob) b o = E.at_ w b o := E.at_congr (ldA_old w b o n ob h)
@[simp] theorem at_setCell (a : Addr) (x : Value) (h : b ≠ a.block) : E.at_ (w.setCell a x) b o = E.at_ w b o := E.at_congr (ldA_setCell w b o n a x h)
@[simp] theorem at_newOld {β : Type} {m : Nat} (E' : Enc β m) (T : TypeId) (a : β) (h : b < w.heap.size) : E.at_ (E'.new T w a) b o = E.at_ w b o := E.at_alloc _ h
@[simp] theorem at_newLOld {β : Type} {m : Nat} (E' : Enc β m) (T : TypeId) (l : List β) (h : b < w.heap.size) : E.at_ (E'.newL T w l) b o = E.at_ w b o := E.at_alloc _ h
@[simp] theorem at_putFar {β : Type} {m b' o' : Nat} (E' : Enc β m) (a : β) (h : b ≠ b') : E.at_ (E'.put w b' o' a) b o = E.at_ w b o := E.at_congr (ldA_putW w b o n b' o' _ h)
theorem at_put {a : α} (h : okA w b o n = true) : E.at_ (E.put w b o a) b o = some a := E.at_of (ldA_same h (E.size a))
@[simp] theorem okA_new_ (T : TypeId) (a : α) (k : Nat) : okA (E.new T w a) w.heap.size o k = decide (o + k ≤ n) := by
  unfold new; rw [okA_new, E.size]
@[simp] theorem okA_new_' (T : TypeId) (a : α) (k : Nat) (h : b = w.heap.size) : okA (E.new T w a) b o k = decide (o + k ≤ n) := by subst h; exact E.okA_new_ T a k
@[simp] theorem okA_newOld (T : TypeId) (a : α) (k : Nat) (h : b < w.heap.size) : okA (E.new T w a) b o k = okA w b o k := okA_old w b o k _ h
@[simp] theorem okA_newLOld (T : TypeId) (l : List α) (k : Nat) (h : b < w.heap.size) : okA (E.newL T w l) b o k = okA w b o k := okA_old w b o k _ h
@[simp] theorem okA_putFar {b' o' : Nat} (a : α) (k : Nat) (h : b ≠ b') : okA (E.put w b' o' a) b o k = okA w b o k := okA_putW w b o k b' o' _ h
@[simp] theorem put_newE (T : TypeId) (a c : α) : E.put (E.new T w a) w.heap.size 0 c = E.new T w c := by
  unfold put new; rw [putW_new, putAt_all _ _ (by rw [E.size, E.size])]
@[simp] theorem put_newE' (T : TypeId) (a c : α) (h : b = w.heap.size) : E.put (E.new T w a) b 0 c = E.new T w c := by subst h; exact E.put_newE T a c
theorem okA_put {b' o' : Nat} {a : α} (h : okA w b' o' n = true) (k : Nat) : okA (E.put w b' o' a) b o k = okA w b o k := okA_same (by rw [E.size]; exact h)
end Enc
theorem Fr.newE {S : Nat → Prop} {a w : World} {α : Type} {n : Nat} (h : Fr S a w) (E : Enc α n) (T : TypeId) (x : α) : Fr S a (E.new T w x) := h.alloc _
theorem Fr.newLE {S : Nat → Prop} {a w : World} {α : Type} {n : Nat} (h : Fr S a w) (E : Enc α n) (T : TypeId) (l : List α) : Fr S a (E.newL T w l) := h.alloc _
theorem Fr.putE {S : Nat → Prop} {a w : World} {α : Type} {n : Nat} (h : Fr S a w) (E : Enc α n) {b : Nat} (hp : b < a.heap.size → S b) (o : Nat) (x : α) : Fr S a (E.put w b o x) := h.put hp o _
theorem okA_frS {S : Nat → Prop} {w w' : World} (h : Fr S w w') : ∀ b o n, b < w.heap.size → ¬ S b → okA w' b o n = okA w b o n := fun b o n hb hs => by
  simp only [okA, h.block b hb hs]

theorem Rd.newE {w : World} {B : Nat} {v : Value} {l : List UInt8} (h : Rd w B v l) {α : Type} {n : Nat} (E : Enc α n) (T : TypeId) (x : α) : Rd (E.new T w x) B v l := h.alloc _

/-! The operations, met by name. -/
def bx (T : TypeId) (x : Value) : Sem Value := Instr.box T x
section
variable {P : Program} {α : Type} {n : Nat} (E : Enc α n) (w : World)
theorem run_ldE {T : TypeId} {d : TypeDesc} [Inhabited α] (hu : P.underlying T = some d) (hd : d.isRow = true) (hi : (P.info? T).map (·.size) = some n) (b o : Nat) (h : (E.at_ w b o).isSome = true) :
    (ld T (.pointer (some ⟨b, o, none⟩))).run P w = .ok (E.v ((E.at_ w b o).getD default)) w := by
  obtain ⟨a, ha⟩ := Option.isSome_iff_exists.1 h
  have hl := E.ldA_of ha
  rw [run_ld w hu hd hi b o (by rw [hl]; rfl), hl, ha]
  rfl
theorem run_stE {T : TypeId} (hi : (P.info? T).map (·.size) = some n) (b o : Nat) (a : α) (h : okA w b o n = true) :
    (st T (.pointer (some ⟨b, o, none⟩)) (E.v a)).run P w = .ok () (E.put w b o a) :=
  run_st w _ (by rw [hi, E.size]) (by have := E.one a; simpa using this) b o (by rw [E.size]; exact h)
theorem run_bxE (T : TypeId) (a : α) : (bx T (E.v a)).run P w = .ok (.pointer (some ⟨w.heap.size, 0, none⟩)) (E.new T w a) := rfl
theorem run_alE {T : TypeId} (h : (match P.info? T with | some i => i.zero.isSome | none => false) = true) (z : α) (hz : zeroTail P T 0 = (E.f z).toArray) :
    (al T).run P w = .ok (.pointer (some ⟨w.heap.size, 0, none⟩)) (E.new T w z) := by rw [run_al w h, hz]; rfl
theorem run_eqE {T : TypeId} [DecidableEq α] {ks : List Kd} {d : Nat} (hk : kindsOf P d T = some ks) (hd : d ≤ 10000) (hv : ∀ cs, valOf P T cs = .agg cs.toArray) (hf : ∀ a, Fits ks (E.f a)) (a b : α) :
    (eqv T (E.v a) (E.v b)).run P w = .ok (.bool (decide (a = b))) w := by
  have h1 : sames (E.f a) (E.f b) = decide (a = b) := by
    rw [Bool.eq_iff_iff, sames_eq (hf a) (hf b), decide_eq_true_eq]
    exact ⟨E.inj a b, fun h => by rw [h]⟩
  rw [← h1]; exact run_eql_flat w d hk hd hv _ _ (hf a) (hf b)
theorem run_neE {T : TypeId} [DecidableEq α] {ks : List Kd} {d : Nat} (hk : kindsOf P d T = some ks) (hd : d ≤ 10000) (hv : ∀ cs, valOf P T cs = .agg cs.toArray) (hf : ∀ a, Fits ks (E.f a)) (a b : α) :
    (nev T (E.v a) (E.v b)).run P w = .ok (.bool (!decide (a = b))) w := by
  have h1 : sames (E.f a) (E.f b) = decide (a = b) := by
    rw [Bool.eq_iff_iff, sames_eq (hf a) (hf b), decide_eq_true_eq]
    exact ⟨E.inj a b, fun h => by rw [h]⟩
  rw [← h1]; exact run_neq_flat w d hk hd hv _ _ (hf a) (hf b)
theorem run_bslE {T e : TypeId} (h : sliceOk P T e n = true) (a : α) :
    (bsl T 1 #[(0, E.v a)]).run P w = .ok (.slice (some ⟨w.heap.size, 0, none⟩) 1 1) (E.new e w a) := by
  have := run_bsl_ok (P := P) w h 1 (by omega) (by omega) #[(0, E.v a)] (by simp [Consec, Enc.v, Value.cells, E.len]) (by simp [partsCells, Enc.v, Value.cells, E.len])
  rw [this]
  simp [partsCells, Enc.v, Value.cells, Enc.new]
theorem run_bslE2 {T e : TypeId} (h : sliceOk P T e n = true) (a b : α) :
    (bsl T 2 #[(0, E.v a), (1, E.v b)]).run P w = .ok (.slice (some ⟨w.heap.size, 0, none⟩) 2 2) (E.newL e w [a, b]) := by
  have := run_bsl_ok (P := P) w h 2 (by omega) (by omega) #[(0, E.v a), (1, E.v b)] (by simp [Consec, Enc.v, Value.cells, E.len]) (by simp [partsCells, Enc.v, Value.cells, E.len]; omega)
  rw [this]
  simp [partsCells, Enc.v, Value.cells, Enc.newL]
end

/-! Slices of such elements. -/
namespace Enc
variable {α : Type} {n : Nat} (E : Enc α n)
/-- The slice x reads the list l, out of a block below B, of whatever element type. -/
def Rds (w : World) (B : Nat) (x : Value) (l : List α) : Prop :=
  ∃ A c, x = .slice A l.length c ∧ l.length ≤ c ∧ c ≤ maxLen ∧ (0 < l.length → ∃ b off, A = some ⟨b, off, none⟩ ∧ b < B ∧ b < w.heap.size ∧ ∀ k y, l[k]? = some y → E.at_ w b (off + k * n) = some y)
variable {E} {w w' : World} {B : Nat} {x : Value} {l : List α}
theorem Rds.form (h : E.Rds w B x l) : ∃ A c, x = .slice A l.length c ∧ l.length ≤ c ∧ c ≤ maxLen := by
  obtain ⟨A, c, hv, h1, h2, _⟩ := h; exact ⟨A, c, hv, h1, h2⟩
theorem Rds.len {A : Option Addr} {L c : Nat} (h : E.Rds w B (.slice A L c) l) : l.length = L := by
  obtain ⟨A', c', hv, _⟩ := h
  injection hv with _ hv _
  exact hv.symm
theorem Rds.cap {A : Option Addr} {L c : Nat} (h : E.Rds w B (.slice A L c) l) : L ≤ c ∧ c ≤ maxLen := by
  obtain ⟨A', c', hv, h1, h2, _⟩ := h
  injection hv with _ h3 h4
  omega
theorem Rds.nil (w : World) (B : Nat) : E.Rds w B (.slice none 0 0) [] := ⟨none, 0, rfl, Nat.le_refl _, Nat.zero_le _, fun h => absurd h (by simp)⟩
theorem Rds.at_ {A : Option Addr} {m c : Nat} (h : E.Rds w B (.slice A m c) l) (hn : 0 < l.length) : ∃ b off, A = some ⟨b, off, none⟩ ∧ b < B ∧ b < w.heap.size ∧ ∀ k (hk : k < l.length), E.at_ w b (off + k * n) = some l[k] := by
  obtain ⟨A', c', hv, _, _, hr⟩ := h
  injection hv with h1
  subst h1
  obtain ⟨b, off, hA, hb, hw, hx⟩ := hr hn
  exact ⟨b, off, hA, hb, hw, fun k hk => hx k _ (List.getElem?_eq_getElem hk)⟩
theorem Rds.atq {A : Option Addr} {m c : Nat} (h : E.Rds w B (.slice A m c) l) (hn : 0 < l.length) : ∃ b off, A = some ⟨b, off, none⟩ ∧ b < B ∧ b < w.heap.size ∧ ∀ k y, l[k]? = some y → E.at_ w b (off + k * n) = some y := by
  obtain ⟨A', c', hv, _, _, hr⟩ := h
  injection hv with h1
  subst h1
  exact hr hn
theorem Rds.fr {S : Nat → Prop} (h : E.Rds w B x l) (hf : Fr S w w') (hS : ∀ k, k < B → ¬ S k) : E.Rds w' B x l := by
  obtain ⟨A, c, hv, h1, h2, hr⟩ := h
  refine ⟨A, c, hv, h1, h2, fun hn => ?_⟩
  obtain ⟨b, off, hA, hb, hw, hx⟩ := hr hn
  exact ⟨b, off, hA, hb, Nat.lt_of_lt_of_le hw hf.size, fun k y hk => (E.at_frS hf b _ hw (hS b hb)).trans (hx k y hk)⟩
theorem Rds.fr0 (h : E.Rds w B x l) (hf : Fr0 w w') : E.Rds w' B x l := h.fr hf (fun _ _ h => h)
theorem Rds.fr1 {g : Nat} (h : E.Rds w B x l) (hf : Fr1 g w w') (hg : B ≤ g) : E.Rds w' B x l := h.fr hf (fun k hk e => by omega)
theorem Rds.alloc (h : E.Rds w B x l) (ob : Obj) : E.Rds (w.alloc ob) B x l := h.fr0 ((Fr.refl _ _).alloc ob)
theorem Rds.mono {B' : Nat} (h : E.Rds w B x l) (hB : B ≤ B') : E.Rds w B' x l := by
  obtain ⟨A, c, hv, h1, h2, hr⟩ := h
  refine ⟨A, c, hv, h1, h2, fun hn => ?_⟩
  obtain ⟨b, off, hA, hlt, hx⟩ := hr hn
  exact ⟨b, off, hA, by omega, hx⟩
theorem Rds.below (h : E.Rds w B x l) (hb : Below B w w') (hs : w.heap.size ≤ w'.heap.size) : E.Rds w' B x l := by
  obtain ⟨A, c, hv, h1, h2, hr⟩ := h
  refine ⟨A, c, hv, h1, h2, fun hn => ?_⟩
  obtain ⟨b, off, hA, hlt, hw, hx⟩ := hr hn
  exact ⟨b, off, hA, hlt, by omega, fun k y hk => (E.at_congr (by simp only [ldA, hb.block b hlt])).trans (hx k y hk)⟩
/-- A part of a slice. -/
theorem Rds.take {A : Option Addr} {m c : Nat} (h : E.Rds w B (.slice A m c) l) (k : Nat) (hk : k ≤ l.length) : E.Rds w B (.slice A k c) (l.take k) := by
  obtain ⟨A', c', hv, h1, h2, hr⟩ := h
  injection hv with hA _ hc
  subst hA; subst hc
  have hl : (l.take k).length = k := by simp; omega
  refine ⟨A, c, by rw [hl], by omega, h2, fun hn => ?_⟩
  obtain ⟨b, off, hA, hb, hw, hx⟩ := hr (by omega)
  refine ⟨b, off, hA, hb, hw, fun j y hj => hx j y ?_⟩
  rw [List.getElem?_take] at hj
  split at hj
  · exact hj
  · cases hj
theorem Rds.drop {b off m c : Nat} (h : E.Rds w B (.slice (some ⟨b, off, none⟩) m c) l) (k : Nat) (hk : k ≤ l.length) : E.Rds w B (.slice (some ⟨b, off + k * n, none⟩) (m - k) (c - k)) (l.drop k) := by
  obtain ⟨A', c', hv, h1, h2, hr⟩ := h
  injection hv with hA hm hc
  subst hA; subst hc; subst hm
  have hl : (l.drop k).length = l.length - k := by simp
  refine ⟨_, _, by rw [hl], by omega, by omega, fun hn => ?_⟩
  obtain ⟨b', off', hA, hb, hw, hx⟩ := hr (by omega)
  injection hA with hA
  injection hA with h3 h4
  subst h3; subst h4
  refine ⟨b, _, rfl, hb, hw, fun j y hj => ?_⟩
  rw [List.getElem?_drop] at hj
  have := hx (k + j) y hj
  rw [Nat.add_mul, ← Nat.add_assoc] at this
  exact this
theorem flat_one (l : List α) : ∀ u ∈ l.flatMap E.f, u.oneCell' = true := by
  intro u hu
  obtain ⟨a, _, ha⟩ := List.mem_flatMap.1 hu
  exact E.one a u ha
theorem flat_len (l : List α) : (l.flatMap E.f).length = l.length * n := flat_length E.f E.len l
theorem at_cells {b off : Nat} (hn : 0 < n) (hc : ∀ j u, (l.flatMap E.f)[j]? = some u → w.cell? ⟨b, off + j, none⟩ = some u) : ∀ k y, l[k]? = some y → E.at_ w b (off + k * n) = some y := by
  intro k y hk
  obtain ⟨hkl, rfl⟩ := List.getElem?_eq_some_iff.1 hk
  apply E.at_of
  have hcut := flat_cut E.f E.len l k hkl
  have := ldA_of_cells (w := w) (b := b) (o := off + k * n) (l := E.f l[k]) (by rw [E.len]; exact hn) (fun j v hv => by
    rw [← hcut, List.getElem?_take] at hv
    split at hv
    · rw [List.getElem?_drop] at hv
      rw [Nat.add_assoc]; exact hc _ _ hv
    · cases hv)
  rwa [E.len] at this
theorem cells_at {b off : Nat} (hn : 0 < n) (hx : ∀ k y, l[k]? = some y → E.at_ w b (off + k * n) = some y) : ∀ j u, (l.flatMap E.f)[j]? = some u → w.cell? ⟨b, off + j, none⟩ = some u := by
  intro j u hj
  have hjl := (List.getElem?_eq_some_iff.1 hj).1
  rw [E.flat_len] at hjl
  have hk : j / n < l.length := (Nat.div_lt_iff_lt_mul hn).2 hjl
  have hmod := Nat.mod_lt j hn
  have hdm : j / n * n + j % n = j := by rw [Nat.mul_comm]; exact Nat.div_add_mod j n
  have h1 := E.ldA_of (hx (j / n) _ (List.getElem?_eq_getElem hk))
  have h2 := ldA_cell h1 hmod
  rw [Nat.add_assoc, hdm] at h2
  rw [h2]
  have hcut := flat_cut E.f E.len l (j / n) hk
  have h3 : (E.f l[j / n])[j % n]? = some u := by
    rw [← hcut, List.getElem?_take, if_pos hmod, List.getElem?_drop, hdm]; exact hj
  simpa using h3
theorem _root_.Go.Proofs.Ytnholkjgdpapbaa.Sl.rds {T : TypeId} (hn : 0 < n) (h : Sl w T n x l.length (l.flatMap E.f)) : E.Rds w w.heap.size x l := by
  obtain ⟨hl, A, c, rfl, h1, h2, hr⟩ := h
  refine ⟨A, c, rfl, h1, h2, fun hp => ?_⟩
  obtain ⟨b, off, cur, fz, rfl, hh, hx⟩ := hr hp
  exact ⟨b, off, rfl, heap_lt hh, heap_lt hh, at_cells hn (fun j u hj => by simp [World.cell?, hh]; exact hx j u hj)⟩
theorem _root_.Go.Proofs.Ytnholkjgdpapbaa.Arg.rds {A : Option Addr} {c : Nat} (hn : 0 < n) (h : Arg w B A l.length c n (l.flatMap E.f)) : E.Rds w B (.slice A l.length c) l := by
  refine ⟨A, c, rfl, h.cap, h.max, fun hp => ?_⟩
  obtain ⟨b, off, hA, hlt, hx⟩ := h.at_ hp
  have hw : b < w.heap.size := by
    have hlen : 0 < (l.flatMap E.f).length := by rw [E.flat_len]; exact Nat.mul_pos hp hn
    exact World.block_lt_of_cell? w _ (hx 0 _ (List.getElem?_eq_getElem hlen))
  exact ⟨b, off, hA, hlt, hw, at_cells hn hx⟩
theorem Rds.new (T : TypeId) (w : World) (a : α) : E.Rds (E.new T w a) (w.heap.size + 1) (.slice (some ⟨w.heap.size, 0, none⟩) 1 1) [a] :=
  ⟨_, 1, rfl, Nat.le_refl _, by unfold maxLen; omega, fun _ => ⟨w.heap.size, 0, rfl, by omega, by simp, fun k y hk => by
    cases k with
    | zero => simp at hk; subst hk; simp
    | succ k => simp at hk⟩⟩
theorem Rds.of_blk1 {g : Nat} {T : TypeId} {a : α} (h : Blk w g T (E.f a).toArray) : E.Rds w (g + 1) (.slice (some ⟨g, 0, none⟩) 1 1) [a] :=
  ⟨_, 1, rfl, Nat.le_refl _, by unfold maxLen; omega, fun _ => ⟨g, 0, rfl, by omega, h.lt, fun k y hk => by
    cases k with
    | zero => simp at hk; subst hk; exact E.at_of (by rw [Nat.zero_mul]; exact h.all (E.size a))
    | succ k => simp at hk⟩⟩
theorem Rds.newL (T : TypeId) (hn : 0 < n) (w : World) (l : List α) (hl : l.length ≤ maxLen) : E.Rds (E.newL T w l) (w.heap.size + 1) (.slice (some ⟨w.heap.size, 0, none⟩) l.length l.length) l := by
  have := Sl.rds (E := E) hn (Sl.new w T n l.length (l.flatMap E.f) (E.flat_len l) hl)
  rw [World.size_alloc] at this
  exact this
theorem own_nil (w : World) (base : Nat) (e : TypeId) : w.ownsRow base e n (.slice none 0 0) ([] : List α).length (([] : List α).flatMap E.f) := World.ownsRow_nil _ _ _ _
theorem own_rds {base : Nat} {e : TypeId} (hn : 0 < n) (h : w.ownsRow base e n x l.length (l.flatMap E.f)) : E.Rds w w.heap.size x l := Sl.rds hn (Sl.of_own h)
/-- append. -/
theorem app {P : Program} {t e : TypeId} {bytes base : Nat} {y : Value} {m : List α} (hn : 0 < n) (hok : appOk P t e n bytes = true) (w : World) (hown : w.ownsRow base e n x l.length (l.flatMap E.f)) (hr : E.Rds w B y m) (hb : (l.length + m.length) * bytes ≤ 140737488355328) (h63 : l.length + m.length ≤ maxLen) (hbase : base ≤ w.heap.size) :
    ∃ A c w', (Proofs.Ytnholkjgdpapbaa.app #[t, t] t #[x, y]).run P w = .ok (.slice A (l ++ m).length c) w' ∧ w'.ownsRow base e n (.slice A (l ++ m).length c) (l ++ m).length ((l ++ m).flatMap E.f) ∧ Fr (fun k => x.ownBlock = some k) w w' ∧ (∀ k, x.ownBlock = some k → base ≤ k) ∧
      ((Value.slice A (l ++ m).length c).ownBlock = x.ownBlock ∨ (Value.slice A (l ++ m).length c).ownBlock = some w.heap.size) := by
  obtain ⟨Ax, cx, rfl, _, _, hx⟩ := hr
  obtain ⟨v', w', hrun, ho, hg, ha⟩ := run_app_rd w hok t hown (A := Ax) (m := m.length) (c := cx) (news := m.flatMap E.f) (E.flat_len m) (fun hm => by
      obtain ⟨b, off, hA, _, _, hc⟩ := hx hm
      exact ⟨b, off, hA, cells_at hn hc⟩) (fun hA => by
      rcases Nat.eq_zero_or_pos m.length with h | h
      · exact h
      · obtain ⟨b, off, hA', _⟩ := hx h; rw [hA] at hA'; cases hA') (E.flat_one m) h63 hb hbase
  rw [← List.length_append, ← List.flatMap_append] at ho
  obtain ⟨A, c, rfl, _, _⟩ := own_form ho
  exact ⟨A, c, w', hrun, ho, Fr.of_grown hg (fun k _ hk => hk.symm), own_ge _ hown, ha⟩
/-- append of one. -/
theorem app1 {P : Program} {t e : TypeId} {bytes base : Nat} (hn : 0 < n) (hok : appOk P t e n bytes = true) (w : World) (a : α) (hown : w.ownsRow base e n x l.length (l.flatMap E.f)) (hb : (l.length + 1) * bytes ≤ 140737488355328) (h63 : l.length + 1 ≤ maxLen) (hbase : base ≤ w.heap.size) :
    ∃ A c w', (Proofs.Ytnholkjgdpapbaa.app #[t, t] t #[x, .slice (some ⟨w.heap.size, 0, none⟩) 1 1]).run P (E.new e w a) = .ok (.slice A (l.length + 1) c) w' ∧ w'.ownsRow base e n (.slice A (l.length + 1) c) (l ++ [a]).length ((l ++ [a]).flatMap E.f) ∧ Fr (fun k => x.ownBlock = some k) w w' ∧ (∀ k, x.ownBlock = some k → base ≤ k) ∧ w.heap.size < w'.heap.size ∧ l.length + 1 ≤ c ∧ c ≤ maxLen := by
  obtain ⟨A, c, w', h1, h2, h3, h4, _⟩ := app (E := E) hn hok (E.new e w a) (own_fr0 hown ((Fr.refl _ _).newE E e a)) (Rds.new e w a) (by simpa using hb) (by simpa using h63) (by simp; omega)
  have hl : (l ++ [a]).length = l.length + 1 := by simp
  rw [hl] at h1
  obtain ⟨A2, c2, he, q1, q2⟩ := own_form h2
  injection he with _ _ he
  subst he
  refine ⟨A, c, w', h1, by rw [hl] at h2 ⊢; exact h2, ((Fr.refl _ w).newE E e a).trans h3, h4, ?_, by omega, q2⟩
  have := h3.size
  simp at this; omega
end Enc

/-! Rows of the call's own, with their lengths as numbers. -/
/-- The slice (A, L, c) is a row of bytes of the call's own, in a block from base on: it reads l. -/
structure OwnB (w : World) (base : Nat) (A : Option Addr) (c L : Nat) (l : List UInt8) : Prop where
  own : w.ownsRow base 5 1 (.slice A L c) L (bs l)
  len : l.length = L
theorem OwnB.nil (w : World) (base : Nat) : OwnB w base none 0 0 [] := ⟨own_nil8 w base, rfl⟩
theorem OwnB.fr0 {w w' : World} {base : Nat} {A : Option Addr} {c L : Nat} {l : List UInt8} (h : OwnB w base A c L l) (hf : Fr0 w w') : OwnB w' base A c L l := ⟨own_fr0 h.own hf, h.len⟩
theorem OwnB.rd {w : World} {base : Nat} {A : Option Addr} {c L : Nat} {l : List UInt8} (h : OwnB w base A c L l) : Rd w w.heap.size (.slice A L c) l := by
  have := h.own
  rw [← h.len] at this ⊢
  exact Sl.rd (Sl.of_own this)
theorem OwnB.cap {w : World} {base : Nat} {A : Option Addr} {c L : Nat} {l : List UInt8} (h : OwnB w base A c L l) : L ≤ c ∧ c ≤ maxLen := by
  obtain ⟨A', c', he, h1, h2⟩ := own_form h.own
  injection he with _ _ he
  subst he; exact ⟨h1, h2⟩
theorem OwnB.app {w w0 : World} {base B : Nat} {A Ax : Option Addr} {c cx L M : Nat} {l m : List UInt8} (h : OwnB w base A c L l) (hf : Fr0 w0 w) (hbase : base = w0.heap.size) (hr : Rd w B (.slice Ax M cx) m) (hb : L + M ≤ 140737488355328) :
    ∃ A2 c2 w2, (Proofs.Ytnholkjgdpapbaa.app #[22, 22] 22 #[.slice A L c, .slice Ax M cx]).run Try.prog w = .ok (.slice A2 (L + M) c2) w2 ∧ OwnB w2 base A2 c2 (L + M) (l ++ m) ∧ Fr0 w0 w2 ∧ L + M ≤ c2 ∧ c2 ≤ maxLen := by
  obtain ⟨Ay, cy, he, _, _⟩ := hr.form
  injection he with _ he _
  subst he
  have hown := h.own
  have hlen := h.len
  subst hlen
  subst hbase
  obtain ⟨A2, c2, w2, h1, h2, h3, h4, _⟩ := app_by w hown hr hb hf.size
  obtain ⟨A3, c3, he, h5, h6⟩ := own_form h2
  injection he with _ _ he
  subst he
  rw [List.length_append] at h1 h5
  refine ⟨A2, c2, w2, h1, ⟨by rw [List.length_append] at h2; exact h2, by simp⟩, hf.then_ h3 (fun i hi hk => by have := h4 i hk; omega), h5, h6⟩
namespace Enc
variable {α : Type} {n : Nat}
/-- The slice (A, L, c) is a row of the call's own, in a block from base on, of element type e: it reads l. -/
structure Own (E : Enc α n) (e : TypeId) (w : World) (base : Nat) (A : Option Addr) (c L : Nat) (l : List α) : Prop where
  own : w.ownsRow base e n (.slice A L c) L (l.flatMap E.f)
  len : l.length = L
variable {E : Enc α n} {e : TypeId} {w w' w0 : World} {base : Nat} {A : Option Addr} {c L : Nat} {l : List α}
theorem Own.nil (E : Enc α n) (e : TypeId) (w : World) (base : Nat) : E.Own e w base none 0 0 [] := ⟨World.ownsRow_nil _ _ _ _, rfl⟩
theorem Own.fr0 (h : E.Own e w base A c L l) (hf : Fr0 w w') : E.Own e w' base A c L l := ⟨own_fr0 h.own hf, h.len⟩
theorem Own.mono {base' : Nat} (h : E.Own e w base A c L l) (hb : base' ≤ base) : E.Own e w base' A c L l := ⟨own_mono h.own hb, h.len⟩
theorem Own.rds (h : E.Own e w base A c L l) (hn : 0 < n) : E.Rds w w.heap.size (.slice A L c) l := by
  have := h.own
  rw [← h.len] at this ⊢
  exact own_rds hn this
theorem Own.cap (h : E.Own e w base A c L l) : L ≤ c ∧ c ≤ maxLen := by
  obtain ⟨A', c', he, h1, h2⟩ := own_form h.own
  injection he with _ _ he
  subst he; exact ⟨h1, h2⟩
theorem Own.app1 {P : Program} {t : TypeId} {bytes : Nat} (hok : appOk P t e n bytes = true) (hn : 0 < n) (h : E.Own e w base A c L l) (hf : Fr0 w0 w) (hbase : base = w0.heap.size) (a : α) (hb : (L + 1) * bytes ≤ 140737488355328) (h63 : L + 1 ≤ maxLen) :
    ∃ A2 c2 w2, (Proofs.Ytnholkjgdpapbaa.app #[t, t] t #[.slice A L c, .slice (some ⟨w.heap.size, 0, none⟩) 1 1]).run P (E.new e w a) = .ok (.slice A2 (L + 1) c2) w2 ∧ E.Own e w2 base A2 c2 (L + 1) (l ++ [a]) ∧ Fr0 w0 w2 ∧ L + 1 ≤ c2 ∧ c2 ≤ maxLen := by
  have hown := h.own
  have hlen := h.len
  subst hlen
  subst hbase
  obtain ⟨A2, c2, w2, h1, h2, h3, h4, h5, h6, h7⟩ := Enc.app1 hn hok w a hown hb h63 hf.size
  refine ⟨A2, c2, w2, h1, ⟨by rw [List.length_append] at h2; exact h2, by simp⟩, hf.then_ h3 (fun i hi hk => by have := h4 i hk; omega), h6, h7⟩
theorem Own.app {P : Program} {t : TypeId} {bytes B : Nat} {Ax : Option Addr} {cx M : Nat} {m : List α} (hok : appOk P t e n bytes = true) (hn : 0 < n) (h : E.Own e w base A c L l) (hf : Fr0 w0 w) (hbase : base = w0.heap.size) (hr : E.Rds w B (.slice Ax M cx) m) (hb : (L + M) * bytes ≤ 140737488355328) (h63 : L + M ≤ maxLen) :
    ∃ A2 c2 w2, (Proofs.Ytnholkjgdpapbaa.app #[t, t] t #[.slice A L c, .slice Ax M cx]).run P w = .ok (.slice A2 (L + M) c2) w2 ∧ E.Own e w2 base A2 c2 (L + M) (l ++ m) ∧ Fr0 w0 w2 ∧ L + M ≤ c2 ∧ c2 ≤ maxLen := by
  obtain ⟨Ay, cy, he, _, _⟩ := hr.form
  injection he with _ he _
  subst he
  have hown := h.own
  have hlen := h.len
  subst hlen
  subst hbase
  obtain ⟨A2, c2, w2, h1, h2, h3, h4, _⟩ := Enc.app hn hok w hown hr hb h63 hf.size
  obtain ⟨A3, c3, he, h5, h6⟩ := own_form h2
  injection he with _ _ he
  subst he
  rw [List.length_append] at h1 h5
  exact ⟨A2, c2, w2, h1, ⟨by rw [List.length_append] at h2; exact h2, by simp⟩, hf.then_ h3 (fun i hi hk => by have := h4 i hk; omega), h5, h6⟩
end Enc

/-! Arrays of bytes. -/
def eB (n : Nat) : Enc (By n) n := ⟨fun a => bs a.1, fun a => by simp [a.2], fun a b h => Subtype.ext (bs_inj h), fun a => bs_one' a.1⟩
instance inhByE (n : Nat) : Inhabited (By n) := ⟨⟨List.replicate n 0, by simp⟩⟩
theorem eB_v {n : Nat} (a : By n) : (eB n).v a = .agg (bs a.1).toArray := rfl
theorem eB_new {n : Nat} (T : TypeId) (w : World) (a : By n) : (eB n).new T w a = w.alloc (.cells (bs a.1).toArray T) := rfl
theorem eB_fits {n : Nat} (a : By n) : Fits (List.replicate n (.int .u8)) ((eB n).f a) := by
  have := Fits.bs a.1
  rwa [a.2] at this
theorem ldA_part {w : World} {b o n : Nat} {cs : Array Value} (h : ldA w b o n = some cs) (i m : Nat) (him : i + m ≤ n) : ldA w b (o + i) m = some (cs.extract i (i + m)) := by
  unfold ldA at h ⊢
  split at h
  · rename_i c e f hh
    split at h
    · rename_i hle
      obtain rfl : c.extract o (o + n) = cs := by simpa using h
      rw [if_pos (show o + i + m ≤ c.size by omega)]
      simp only [Array.extract_extract, Option.some.injEq]
      congr 1
      omega
    · cases h
  · cases h
/-- Two aggregates, one behind the other. -/
def eP {α β : Type} {n m : Nat} (E : Enc α n) (F : Enc β m) : Enc (α × β) (n + m) :=
  ⟨fun p => E.f p.1 ++ F.f p.2, fun p => by simp [E.len, F.len], fun p q h => by
    obtain ⟨h1, h2⟩ := List.append_inj h (by rw [E.len, E.len])
    exact Prod.ext (E.inj _ _ h1) (F.inj _ _ h2), fun p u hu => by
    rcases List.mem_append.1 hu with h | h
    · exact E.one _ u h
    · exact F.one _ u h⟩
theorem eP_at {α β : Type} {n m : Nat} {E : Enc α n} {F : Enc β m} {w : World} {b o : Nat} {p : α × β} (h : (eP E F).at_ w b o = some p) : E.at_ w b o = some p.1 ∧ F.at_ w b (o + n) = some p.2 := by
  have hl := (eP E F).ldA_of h
  have hs := (eP E F).size p
  constructor
  · apply E.at_of
    have := ldA_part hl 0 n (by omega)
    rw [Nat.add_zero] at this
    rw [this]; congr 1
    apply Array.toList_inj.1
    simp only [Nat.zero_add, Array.toList_extract, List.extract_eq_take_drop, eP]
    simp [E.len]
  · apply F.at_of
    have := ldA_part hl n m (by omega)
    rw [this]; congr 1
    apply Array.toList_inj.1
    simp only [Array.toList_extract, List.extract_eq_take_drop, eP]
    have h1 := E.len p.1
    have h2 := F.len p.2
    rw [List.drop_append, h1, List.drop_of_length_le (by omega), Nat.sub_self, List.drop_zero, List.nil_append, List.take_of_length_le (by omega)]
/-- A slice as a cell. -/
abbrev Sv : Type := Option Addr × Nat × Nat
def eS : Enc Sv 1 := ⟨fun a => [.slice a.1 a.2.1 a.2.2], fun _ => rfl, fun a b h => by
  simp only [List.cons.injEq, and_true, Value.slice.injEq] at h
  exact Prod.ext h.1 (Prod.ext h.2.1 h.2.2), fun a u hu => by simp at hu; subst hu; rfl⟩
theorem eS_cell {w : World} {b o : Nat} {a : Sv} (h : eS.at_ w b o = some a) : w.cell? ⟨b, o, none⟩ = some (.slice a.1 a.2.1 a.2.2) := by
  have := ldA_cell (eS.ldA_of h) (i := 0) (by omega)
  rw [Nat.add_zero] at this
  rw [this]; rfl
theorem eS_new (T : TypeId) (w : World) (A : Option Addr) (L c : Nat) : eS.new T w (A, L, c) = w.alloc (.cells #[.slice A L c] T) := rfl
/-- An integer. -/
def eI (k : IntKind) : Enc Int 1 := ⟨fun a => [.int k a], fun _ => rfl, fun a b h => by simpa using h, fun a u hu => by simp at hu; subst hu; rfl⟩
end Go.Proofs.Ytnholkjgdpapbaa
