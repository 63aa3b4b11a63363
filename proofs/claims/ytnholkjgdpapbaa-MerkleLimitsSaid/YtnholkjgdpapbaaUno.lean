/- A region whose operations may come in several orders. Forced operations are walked one behind the other (reg_seq); of the others each is shown once, at a world that has drifted by a frame (reg_uno). No condition but the checks that are named. -/
import Derived.Test.YtnholkjgdpapbaaWords
import Derived.Orders
namespace Go.Proofs.Ytnholkjgdpapbaa
set_option linter.unusedVariables false
set_option linter.unusedSimpArgs false
open Go.RowKit

/-- What one operation is to leave: its value, and a world that has drifted. -/
def Q1 (d : Option Tmp) (ds : List Deferred) (K : Value → World → Prop) : Exit → Act → World → Prop
  | .normal, a, w => a.defers = ds ∧ K (match d with | some t => a.tmps.getD t undef | none => undef) w
  | _, _, _ => False
theorem Q1.mk {d : Option Tmp} {ds : List Deferred} {K : Value → World → Prop} {a : Act} {w : World} (h : a.defers = ds) (u : Value) (hu : (match d with | some t => a.tmps.getD t undef | none => undef) = u) (hK : K u w) : Q1 d ds K .normal a w := ⟨h, by rw [hu]; exact hK⟩
def Posts (m : Nat) (post : List (Value → World → Prop)) (v : Nat → Value) (w : World) : List Nat → Prop
  | [] => True
  | j :: r => (match post[j - m]? with | some p => p (v j) w | none => True) ∧ Posts m post v w r
def puts (l : List Oper) (v : Nat → Value) : List Nat → Act → Act
  | [], a => a
  | j :: r, a => puts l v r (a.put ((l[j]?).bind (·.dst)) (v j))
def Stab (R : World → World → Prop) : List (Value → World → Prop) → Prop
  | [] => True
  | p :: r => (∀ u w w', R w w' → p u w → p u w') ∧ Stab R r
/-- The block that a pointer or a slice leads to. -/
def blkOf : Value → Option Nat
  | .pointer (some a) => some a.block
  | .slice (some a) _ _ => some a.block
  | _ => none
/-- What an operation of F leaves lies in a block that is new at that operation. -/
def FrOk (F : List Nat) (i : Nat) (w : World) (u : Value) (w' : World) : Prop := F.contains i = true → ∀ g, blkOf u = some g → w.heap.size ≤ g ∧ g < w'.heap.size
def Apart (F : List Nat) (v : Nat → Value) : Prop := ∀ j k, F.contains j = true → F.contains k = true → j ≠ k → ∀ g, blkOf (v j) = some g → blkOf (v k) = some g → False
/-- What operation i waits for, from number m on. -/
def from_ (T : List (List Nat)) (m i : Nat) : List Nat := (T.getD i []).filter (fun j => decide (m ≤ j))
/-- The operations, one by one. -/
def UStep (P : Program) (l : List Oper) (m : Nat) (F : List Nat) (R : World → World → Prop) (post : List (Value → World → Prop)) (T : List (List Nat)) (v : Nat → Value) (a : Act) (w0 : World) (i : Nat) : Prop :=
  match l[i]? with
  | none => True
  | some o => ∀ w, R w0 w → Posts m post v w (from_ T m i) → wpList P l.toArray (Q1 o.dst a.defers (fun u w' => R w w' ∧ (match post[i - m]? with | some p => p u w' | none => True) ∧ FrOk F i w u w')) [o] (puts l v (from_ T m i) a) w
def USteps (P : Program) (l : List Oper) (m : Nat) (F : List Nat) (R : World → World → Prop) (post : List (Value → World → Prop)) (T : List (List Nat)) (v : Nat → Value) (a : Act) (w0 : World) : Nat → Nat → Prop
  | _, 0 => True
  | i, n + 1 => UStep P l m F R post T v a w0 i ∧ USteps P l m F R post T v a w0 (i + 1) n

def opOk (o : Oper) : Bool := match o.op with | .select .. => false | _ => true
/-- T tells what each operation waits for. -/
def baseOk (l : List Oper) (T : List (List Nat)) (sz : Nat) : Bool :=
  (List.range l.length).all fun i => match l[i]? with
    | none => true
    | some o =>
      (T.getD i []).all (fun j => decide (j < i) && o.after.any (fun e => Region.binds .any e && (e.on == j || (T.getD e.on []).contains j))) &&
      o.after.all (fun e => !Region.binds .any e || decide (e.on < i)) &&
      (match o.dst with | none => true | some d => decide (d < sz)) && opOk o
/-- Whatever comes behind number n waits for all from m to n. -/
def waitOk (l : List Oper) (m n : Nat) (T : List (List Nat)) : Bool :=
  decide (m ≤ n) && decide (n ≤ l.length) && (List.range l.length).all fun i => decide (i < n) || (List.range n).all fun j => decide (j < m) || (T.getD i []).contains j
/-- From m to n no two write one slot, and whoever reads a slot that another writes stands in a fixed order to it. -/
def apartOk (l : List Oper) (m n : Nat) (T : List (List Nat)) : Bool :=
  (List.range n).all fun i => decide (i < m) || match l[i]? with
    | none => true
    | some o => match o.dst with
      | none => true
      | some d => (List.range n).all fun j => decide (j < m) || match l[j]? with
        | none => true
        | some o' => i == j || (o'.dst != some d && (!(o'.looksAt l.toArray).contains d || (T.getD j []).contains i || (T.getD i []).contains j))

section
variable {P : Program} {l : List Oper} {F : List Nat} {R : World → World → Prop} {post : List (Value → World → Prop)} {T : List (List Nat)} {a0 : Act} {m n : Nat}

structure BaseF (l : List Oper) (T : List (List Nat)) (sz : Nat) : Prop where
  clos : ∀ (i : Nat) (o : Oper), l[i]? = some o → ∀ j ∈ T.getD i [], j < i ∧ ∃ e ∈ o.after, Region.binds .any e = true ∧ (e.on = j ∨ j ∈ T.getD e.on [])
  back : ∀ (i : Nat) (o : Oper), l[i]? = some o → ∀ e ∈ o.after, Region.binds .any e = true → e.on < i
  slot : ∀ (i : Nat) (o : Oper) (d : Tmp), l[i]? = some o → o.dst = some d → d < sz
  sel : ∀ (i : Nat) (o : Oper) (cs : Array SelectCase) (b : Bool), l[i]? = some o → o.op ≠ .select cs b
theorem baseOk_facts {sz : Nat} (h : baseOk l T sz = true) : BaseF l T sz := by
  unfold baseOk at h
  simp only [List.all_eq_true, List.mem_range] at h
  have lt : ∀ {i : Nat} {o : Oper}, l[i]? = some o → i < l.length := fun h => (List.getElem?_eq_some_iff.1 h).1
  have g := fun (i : Nat) (o : Oper) (ho : l[i]? = some o) => (by simpa only [ho, Bool.and_eq_true] using h i (lt ho) : _ ∧ _)
  refine ⟨?_, ?_, ?_, ?_⟩
  · intro i o ho j hj
    obtain ⟨⟨⟨h1, h2⟩, h3⟩, h5⟩ := g i o ho
    have := List.all_eq_true.1 h1 j hj
    simp only [Bool.and_eq_true, decide_eq_true_eq] at this
    refine ⟨this.1, ?_⟩
    obtain ⟨e, he, hb⟩ := Array.any_eq_true'.1 this.2
    simp only [Bool.and_eq_true, Bool.or_eq_true, beq_iff_eq, List.contains_eq_mem, decide_eq_true_eq] at hb
    exact ⟨e, he, hb.1, hb.2⟩
  · intro i o ho e he hb
    obtain ⟨⟨⟨h1, h2⟩, h3⟩, h5⟩ := g i o ho
    have := Array.all_eq_true_iff_forall_mem.1 h2 e he
    simpa [hb] using this
  · intro i o d ho hd
    obtain ⟨⟨⟨h1, h2⟩, h3⟩, h5⟩ := g i o ho
    simpa [hd] using h3
  · intro i o cs b ho heq
    obtain ⟨⟨⟨h1, h2⟩, h3⟩, h5⟩ := g i o ho
    simp [opOk, heq] at h5
structure WaitF (l : List Oper) (m n : Nat) (T : List (List Nat)) : Prop where
  le : m ≤ n
  top : n ≤ l.length
  wait : ∀ i, i < l.length → n ≤ i → ∀ j, m ≤ j → j < n → j ∈ T.getD i []
theorem waitOk_facts (h : waitOk l m n T = true) : WaitF l m n T := by
  unfold waitOk at h
  simp only [Bool.and_eq_true, decide_eq_true_eq, List.all_eq_true, List.mem_range, Bool.or_eq_true, List.contains_eq_mem] at h
  obtain ⟨⟨h1, h2⟩, h3⟩ := h
  refine ⟨h1, h2, fun i hi hn j hj hjn => ?_⟩
  rcases h3 i hi with h | h
  · omega
  · rcases h j hjn with h | h
    · omega
    · exact h
structure ApartF (l : List Oper) (m n : Nat) (T : List (List Nat)) : Prop where
  one : ∀ (i : Nat) (o : Oper) (d : Tmp), m ≤ i → i < n → l[i]? = some o → o.dst = some d → ∀ (j : Nat) (o' : Oper), m ≤ j → j < n → l[j]? = some o' → o'.dst = some d → i = j
  look : ∀ (i : Nat) (o : Oper) (d : Tmp), m ≤ i → i < n → l[i]? = some o → o.dst = some d → ∀ (j : Nat) (o' : Oper), m ≤ j → j < n → l[j]? = some o' → i ≠ j → d ∈ o'.looksAt l.toArray → i ∈ T.getD j [] ∨ j ∈ T.getD i []
theorem apartOk_facts (h : apartOk l m n T = true) : ApartF l m n T := by
  unfold apartOk at h
  simp only [List.all_eq_true, List.mem_range, Bool.or_eq_true, decide_eq_true_eq] at h
  have g : ∀ (i : Nat) (o : Oper) (d : Tmp), m ≤ i → i < n → l[i]? = some o → o.dst = some d → ∀ (j : Nat) (o' : Oper), m ≤ j → j < n → l[j]? = some o' → i = j ∨ (o'.dst ≠ some d ∧ (¬ d ∈ o'.looksAt l.toArray ∨ i ∈ T.getD j [] ∨ j ∈ T.getD i [])) := by
    intro i o d hmi hin ho hd j o' hmj hjn ho'
    rcases h i hin with h | h
    · omega
    · simp only [ho, hd, List.all_eq_true, List.mem_range, Bool.or_eq_true, decide_eq_true_eq] at h
      rcases h j hjn with h | h
      · omega
      · simp only [ho', Bool.or_eq_true, beq_iff_eq, Bool.and_eq_true, bne_iff_ne, Bool.not_eq_true', List.contains_eq_mem, decide_eq_true_eq, decide_eq_false_iff_not] at h
        rcases h with h | ⟨h1, (h2 | h2) | h2⟩
        · exact .inl h
        · exact .inr ⟨h1, .inl h2⟩
        · exact .inr ⟨h1, .inr (.inl h2)⟩
        · exact .inr ⟨h1, .inr (.inr h2)⟩
  refine ⟨fun i o d h1 h2 h3 h4 j o' h5 h6 h7 h8 => ?_, fun i o d h1 h2 h3 h4 j o' h5 h6 h7 h8 h9 => ?_⟩
  · rcases g i o d h1 h2 h3 h4 j o' h5 h6 h7 with h | h
    · exact h
    · exact absurd h8 h.1
  · rcases g i o d h1 h2 h3 h4 j o' h5 h6 h7 with h | ⟨_, h | h⟩
    · exact absurd h h8
    · exact absurd h9 h
    · exact h

theorem put_getD {a : Act} {d : Option Tmp} {v : Value} {t : Tmp} (hd : ∀ x, d = some x → x < a.tmps.size) : (a.put d v).tmps.getD t undef = if d = some t then v else a.tmps.getD t undef := by
  cases d with
  | none => simp [Act.put]
  | some x =>
    have hx := hd x rfl
    simp only [Act.put, Array.getD_eq_getD_getElem?, Array.getElem?_setIfInBounds, Option.some.injEq]
    by_cases h : x = t
    · subst h; simp [hx]
    · simp [h]
@[simp] theorem put_size (a : Act) (d : Option Tmp) (v : Value) : (a.put d v).tmps.size = a.tmps.size := by cases d <;> simp [Act.put]
@[simp] theorem put_defers (a : Act) (d : Option Tmp) (v : Value) : (a.put d v).defers = a.defers := by cases d <;> rfl
@[simp] theorem puts_size (v : Nat → Value) (J : List Nat) (a : Act) : (puts l v J a).tmps.size = a.tmps.size := by
  induction J generalizing a with
  | nil => rfl
  | cons j J ih => simp [puts, ih]
@[simp] theorem puts_defers (v : Nat → Value) (J : List Nat) (a : Act) : (puts l v J a).defers = a.defers := by
  induction J generalizing a with
  | nil => rfl
  | cons j J ih => simp [puts, ih]
theorem puts_slot (v : Nat → Value) (t : Tmp) : ∀ (J : List Nat) (a : Act), (∀ (i : Nat) (o : Oper) (d : Tmp), l[i]? = some o → o.dst = some d → d < a.tmps.size) →
    (∀ j ∈ J, ∀ (o : Oper), l[j]? = some o → o.dst = some t → ∀ i ∈ J, ∀ (o' : Oper), l[i]? = some o' → o'.dst = some t → i = j) →
    (puts l v J a).tmps.getD t undef = (match J.find? (fun j => (l[j]?).bind (·.dst) == some t) with | some j => v j | none => a.tmps.getD t undef)
  | [], a, _, _ => rfl
  | j :: J, a, hs, h1 => by
    have hb : ∀ x, (l[j]?).bind (·.dst) = some x → x < a.tmps.size := fun x hx => by
      cases ho : l[j]? with
      | none => simp [ho] at hx
      | some o => exact hs j o x ho (by simpa [ho] using hx)
    rw [puts, puts_slot v t J _ (by simpa using hs) (fun k hk o ho hd i hi => h1 k (List.mem_cons_of_mem _ hk) o ho hd i (List.mem_cons_of_mem _ hi)), List.find?_cons, put_getD hb]
    by_cases hd : (l[j]?).bind (·.dst) = some t
    · have hd' : ((l[j]?).bind (·.dst) == some t) = true := by simpa using hd
      rw [hd', if_pos hd]
      cases hf : J.find? (fun j => (l[j]?).bind (·.dst) == some t) with
      | none => rfl
      | some k =>
        have hk := List.find?_some hf
        have hkm := List.mem_of_find?_eq_some hf
        simp only [beq_iff_eq] at hk
        cases ho : l[j]? with
        | none => simp [ho] at hd
        | some o =>
          cases ho' : l[k]? with
          | none => simp [ho'] at hk
          | some o' =>
            have := h1 j (by simp) o ho (by simpa [ho] using hd) k (List.mem_cons_of_mem _ hkm) o' ho' (by simpa [ho'] using hk)
            simp [this]
    · have hd' : ((l[j]?).bind (·.dst) == some t) = false := by simpa using hd
      rw [hd', if_neg hd]

theorem act_ext {a b : Act} (hs : a.tmps.size = b.tmps.size) (hd : a.defers = b.defers) (h : ∀ t, a.tmps.getD t undef = b.tmps.getD t undef) : a = b := by
  obtain ⟨ta, da⟩ := a
  obtain ⟨tb, db⟩ := b
  simp only at hs hd h
  subst hd
  congr 1
  apply Array.ext hs
  intro i h1 h2
  have := h i
  simpa [Array.getD, h1, h2] using this
/-- What stands in slot t once the operations of L, from m to n, are done. -/
def slotV (l : List Oper) (m n : Nat) (v : Nat → Value) (a0 : Act) (L : Nat → Bool) (t : Tmp) : Value :=
  match (List.range n).find? (fun j => decide (m ≤ j) && L j && ((l[j]?).bind (·.dst) == some t)) with
  | some j => v j
  | none => a0.tmps.getD t undef
theorem slotV_some (hF : ApartF l m n T) {v : Nat → Value} {L : Nat → Bool} {t : Tmp} {j : Nat} {o : Oper} (hm : m ≤ j) (hn : j < n) (hj : L j = true) (ho : l[j]? = some o) (hd : o.dst = some t) : slotV l m n v a0 L t = v j := by
  unfold slotV
  cases h : (List.range n).find? (fun j => decide (m ≤ j) && L j && ((l[j]?).bind (·.dst) == some t)) with
  | none =>
    have := List.find?_eq_none.1 h j (List.mem_range.2 hn)
    simp [hj, ho, hd, hm] at this
  | some k =>
    have hk := List.find?_some h
    have hkm := List.mem_range.1 (List.mem_of_find?_eq_some h)
    simp only [Bool.and_eq_true, beq_iff_eq, decide_eq_true_eq] at hk
    obtain ⟨o', ho'⟩ : ∃ o', l[k]? = some o' := by
      cases hh : l[k]? with
      | none => simp [hh] at hk
      | some o' => exact ⟨o', rfl⟩
    have hd' : o'.dst = some t := by simpa [ho'] using hk.2
    rw [hF.one j o t hm hn ho hd k o' hk.1.1 hkm ho' hd']
theorem slotV_none {v : Nat → Value} {L : Nat → Bool} {t : Tmp} (h : ∀ (j : Nat) (o : Oper), m ≤ j → j < n → l[j]? = some o → o.dst = some t → L j = false) : slotV l m n v a0 L t = a0.tmps.getD t undef := by
  unfold slotV
  cases hh : (List.range n).find? (fun j => decide (m ≤ j) && L j && ((l[j]?).bind (·.dst) == some t)) with
  | none => rfl
  | some k =>
    have hk := List.find?_some hh
    have hkm := List.mem_range.1 (List.mem_of_find?_eq_some hh)
    simp only [Bool.and_eq_true, beq_iff_eq, decide_eq_true_eq] at hk
    obtain ⟨o', ho'⟩ : ∃ o', l[k]? = some o' := by
      cases hh : l[k]? with
      | none => simp [hh] at hk
      | some o' => exact ⟨o', rfl⟩
    have := h k o' hk.1.1 hkm ho' (by simpa [ho'] using hk.2)
    rw [this] at hk; simp at hk
theorem slotV_congr (hF : ApartF l m n T) {v v' : Nat → Value} {L L' : Nat → Bool} {t : Tmp} (h : ∀ j, m ≤ j → j < n → L j = L' j) (hv : ∀ j, m ≤ j → j < n → L j = true → v j = v' j) : slotV l m n v a0 L t = slotV l m n v' a0 L' t := by
  by_cases hx : ∃ (j : Nat) (o : Oper), m ≤ j ∧ j < n ∧ l[j]? = some o ∧ o.dst = some t ∧ L j = true
  · obtain ⟨j, o, hm, hn, ho, hd, hL⟩ := hx
    rw [slotV_some hF hm hn hL ho hd, slotV_some hF hm hn (by rw [← h j hm hn]; exact hL) ho hd, hv j hm hn hL]
  · have h1 : ∀ (j : Nat) (o : Oper), m ≤ j → j < n → l[j]? = some o → o.dst = some t → L j = false := fun j o hm hn ho hd => by
      cases hL : L j with
      | false => rfl
      | true => exact absurd ⟨j, o, hm, hn, ho, hd, hL⟩ hx
    rw [slotV_none h1, slotV_none (fun j o hm hn ho hd => by rw [← h j hm hn]; exact h1 j o hm hn ho hd)]
theorem puts_eq_slotV {sz : Nat} (hB : BaseF l T sz) (hF : ApartF l m n T) (hsz : a0.tmps.size = sz) (v : Nat → Value) (J : List Nat) (hJ : ∀ j ∈ J, m ≤ j ∧ j < n) (t : Tmp) :
    (puts l v J a0).tmps.getD t undef = slotV l m n v a0 (fun j => J.contains j) t := by
  rw [puts_slot v t J a0 (fun i o d ho hd => hsz ▸ hB.slot i o d ho hd) (fun j hj o ho hd i hi o' ho' hd' => hF.one i o' t (hJ i hi).1 (hJ i hi).2 ho' hd' j o (hJ j hj).1 (hJ j hj).2 ho hd)]
  cases hf : J.find? (fun j => (l[j]?).bind (·.dst) == some t) with
  | none =>
    symm
    apply slotV_none
    intro j o _ _ ho hd
    cases hc : J.contains j with
    | false => rfl
    | true =>
      have := List.find?_eq_none.1 hf j (by simpa using hc)
      simp [ho, hd] at this
  | some k =>
    have hk := List.find?_some hf
    have hm := List.mem_of_find?_eq_some hf
    simp only [beq_iff_eq] at hk
    cases ho : l[k]? with
    | none => simp [ho] at hk
    | some o => exact (slotV_some hF (hJ k hm).1 (hJ k hm).2 (by simpa using hm) ho (by simpa [ho] using hk)).symm

theorem posts_iff {v : Nat → Value} {w : World} : ∀ {J : List Nat}, Posts m post v w J ↔ ∀ j ∈ J, ∀ p, post[j - m]? = some p → p (v j) w
  | [] => by simp [Posts]
  | j :: J => by
    simp only [Posts, posts_iff (J := J), List.mem_cons, forall_eq_or_imp]
    refine and_congr_left fun _ => ?_
    cases post[j - m]? <;> simp
theorem stab_at : ∀ {post : List (Value → World → Prop)}, Stab R post → ∀ (j : Nat) (p : Value → World → Prop), post[j]? = some p → ∀ u w w', R w w' → p u w → p u w'
  | [], _, _, _, h => by simp at h
  | q :: r, hs, 0, p, h => by simp at h; subst h; exact hs.1
  | q :: r, hs, j + 1, p, h => stab_at hs.2 j p (by simpa using h)
theorem usteps_at {v : Nat → Value} {w0 : World} : ∀ {k i : Nat}, USteps P l m F R post T v a0 w0 i k → ∀ j, i ≤ j → j < i + k → UStep P l m F R post T v a0 w0 j
  | 0, i, _, j, h1, h2 => by omega
  | k + 1, i, h, j, h1, h2 => by
    by_cases hj : j = i
    · subst hj; exact h.1
    · exact usteps_at h.2 j (by omega) (by omega)

theorem filter_lt {p q : Nat → Bool} : ∀ {L : List Nat} {x : Nat}, (∀ y ∈ L, q y = true → p y = true) → x ∈ L → p x = true → q x = false → (L.filter q).length < (L.filter p).length
  | [], x, _, hx, _, _ => by cases hx
  | y :: L, x, h, hx, hp, hq => by
    have hle : (L.filter q).length ≤ (L.filter p).length := by
      rw [← List.countP_eq_length_filter, ← List.countP_eq_length_filter]
      exact List.countP_mono_left (fun z hz hq => h z (List.mem_cons_of_mem _ hz) hq)
    rcases List.mem_cons.1 hx with rfl | hx
    · rw [List.filter_cons, List.filter_cons, if_pos hp, if_neg (by simp [hq])]; simp; omega
    · have ih := filter_lt (L := L) (fun z hz => h z (List.mem_cons_of_mem _ hz)) hx hp hq
      rw [List.filter_cons, List.filter_cons]
      by_cases hqy : q y = true
      · rw [if_pos hqy, if_pos (h y (by simp) hqy)]; simp; omega
      · rw [if_neg hqy]; split <;> simp <;> omega
theorem least {p : Nat → Bool} : ∀ {m : Nat}, (∃ j, j < m ∧ p j = false) → ∃ j, j < m ∧ p j = false ∧ ∀ k, k < j → p k = true
  | 0, ⟨_, h, _⟩ => by omega
  | m + 1, ⟨j, hj, hp⟩ => by
    by_cases h : ∃ j, j < m ∧ p j = false
    · obtain ⟨k, hk, h1, h2⟩ := least h
      exact ⟨k, by omega, h1, h2⟩
    · have hall : ∀ k, k < m → p k = true := fun k hk => by
        cases hpk : p k with
        | true => rfl
        | false => exact absurd ⟨k, hk, hpk⟩ h
      have : j = m := by
        rcases Nat.lt_or_ge j m with h' | h'
        · rw [hall j h'] at hp; cases hp
        · omega
      subst this
      exact ⟨j, by omega, hp, hall⟩

def unl (n : Nat) (listed : Array Bool) : Nat := ((List.range n).filter (fun j => !listed.getD j false)).length
theorem unl_set {listed : Array Bool} {i : Nat} (hi : i < n) (hs : i < listed.size) (hu : listed.getD i false = false) : unl n (listed.setIfInBounds i true) < unl n listed := by
  unfold unl
  refine filter_lt (x := i) ?_ (List.mem_range.2 hi) (by show (!listed.getD i false) = true; rw [hu]; rfl) ?_
  · intro y hy h
    by_cases hyi : i = y
    · subst hyi; show (!listed.getD i false) = true; rw [hu]; rfl
    · rw [getD_set_ne false hyi] at h; exact h
  · have : (listed.setIfInBounds i true).getD i false = true := by simp [hs]
    simp [this]
theorem unl_pos {listed : Array Bool} {i : Nat} (hi : i < n) (hu : listed.getD i false = false) : 0 < unl n listed := by
  unfold unl
  exact List.length_pos_of_mem (a := i) (List.mem_filter.2 ⟨List.mem_range.2 hi, by rw [hu]; rfl⟩)
theorem ready_facts {i : Nat} {listed : Array Bool} (hs : listed.size = l.length) (hr : i ∈ Region.ready .any l.toArray listed) :
    i < l.length ∧ listed.getD i false = false ∧ ∃ o, l[i]? = some o ∧ ∀ e ∈ o.after, Region.binds .any e = true → listed.getD e.on false = true := by
  obtain ⟨h0, o, ho, hall⟩ := mem_ready.1 hr
  have ho' : l[i]? = some o := by simpa using ho
  have hlt := (List.getElem?_eq_some_iff.1 ho').1
  refine ⟨hlt, ?_, o, ho', hall⟩
  have : i < listed.size := by omega
  simpa [Array.getD, this] using h0
theorem exec_same {a b : Act} {o : Oper} (hs : ∀ cs b, o.op ≠ .select cs b) (h : ∀ t, t ∈ o.looksAt l.toArray → a.tmps.getD t undef = b.tmps.getD t undef) : execOp a.eval o = execOp b.eval o :=
  execOp_congr o hs fun x hx => by
    cases x with
    | tmp t => exact h t (List.mem_append_left _ (List.mem_filterMap.2 ⟨.tmp t, by simpa using hx, rfl⟩))
    | _ => rfl
theorem wanted_same {a b : Act} {o : Oper} (hsz : a.tmps.size = b.tmps.size) (h : ∀ t, t ∈ o.looksAt l.toArray → a.tmps.getD t undef = b.tmps.getD t undef) :
    Region.wanted o (yielded l.toArray a.tmps) = Region.wanted o (yielded l.toArray b.tmps) := by
  unfold Region.wanted
  cases hg : o.guard with
  | none => rfl
  | some gw =>
    obtain ⟨g, want⟩ := gw
    have hy : yielded l.toArray a.tmps g = yielded l.toArray b.tmps g := by
      unfold yielded
      cases ht : (l.toArray[g]?).bind (·.dst) with
      | none => rfl
      | some t =>
        have := h t (by simp [Oper.looksAt, hg] at ht ⊢; right; rw [ht])
        simp only [Option.bind_some]
        by_cases hb : t < a.tmps.size
        · have hb' : t < b.tmps.size := hsz ▸ hb
          simp only [Array.getD, hb, hb', dite_true, Array.getInternal_eq_getElem] at this
          rw [Array.getElem?_eq_getElem hb, Array.getElem?_eq_getElem hb', this]
        · rw [Array.getElem?_eq_none (Nat.le_of_not_lt hb), Array.getElem?_eq_none (Nat.le_of_not_lt (hsz ▸ hb))]
    simp only [hy]

/-- One operation, at an act that agrees with the one at which it was shown. -/
theorem op_move {Q : Exit → Act → World → Prop} {a c : Act} {w : World} {i : Nat} {o : Oper} {D : Value → World → Prop} {K : Act → World → Prop} (ho : l[i]? = some o) (hs : ∀ cs b, o.op ≠ .select cs b) (hsz : a.tmps.size = c.tmps.size)
    (hb : ∀ d, o.dst = some d → d < c.tmps.size) (h : ∀ t, t ∈ o.looksAt l.toArray → a.tmps.getD t undef = c.tmps.getD t undef)
    (h1 : wpList P l.toArray (Q1 o.dst c.defers D) [o] c w) (hK : ∀ u w', D (match o.dst with | some _ => u | none => undef) w' → K (a.put o.dst u) w') : wpOp P l.toArray Q i K a w := by
  have hev := exec_same (a := a) (b := c) hs h
  have hwa := wanted_same (a := a) (b := c) (o := o) hsz h
  have hput : ∀ u w', Q1 o.dst c.defers D .normal (c.put o.dst u) w' → K (a.put o.dst u) w' := fun u w' hq => by
    refine hK u w' ?_
    have := hq.2
    cases hd : o.dst with
    | none => rw [hd] at this; exact this
    | some d =>
      rw [hd] at this
      replace this : D ((c.put (some d) u).tmps.getD d undef) w' := this
      rw [show (c.put (some d) u).tmps.getD d undef = u by rw [put_getD (by rintro x hx; injection hx with hx; subst hx; exact hb _ hd)]; simp] at this
      exact this
  unfold wpOp
  simp only [List.getElem?_toArray, ho]
  unfold wpList at h1
  rw [hwa]
  split
  · rename_i hw
    rw [if_pos hw] at h1
    rcases h1 with h1 | ⟨_, h1⟩
    · refine .inl ?_
      unfold Oper.wp at *
      rw [hev]
      generalize (execOp c.eval o).run P w = r at *
      cases r with
      | ok nx w' =>
        cases nx <;> simp only [Oper.upon] at h1 ⊢
        case value u => exact hput u w' h1
        case skip => exact hput undef w' h1
        case defer d =>
          have := h1.1
          simp at this
        case enter f args =>
          refine Calls.mono h1 fun e w'' he => ?_
          cases e with
          | returned u => exact hput u w'' he
          | panicked ch => exact he.elim
          | outgrown => obtain ⟨x, y, hx⟩ := he; exact hx.elim
        case row row args => exact Rows.mono h1 fun u w'' he => hput u w'' he
      | halt x w' =>
        cases x <;> simp only [Oper.upon] at h1 ⊢
        case panic u => exact h1.elim
    · obtain ⟨x, y, hx⟩ := h1; exact hx.elim
  · rename_i hw
    rw [if_neg hw] at h1
    exact hput undef w h1


/-- The first m operations are done; the rest may come in whatever order. -/
def Reg (P : Program) (l : List Oper) (Q : Exit → Act → World → Prop) (m : Nat) (a : Act) (w : World) : Prop :=
  ∀ (listed : Array Bool) (fuel : Nat), listed.size = l.length → (∀ j, j < l.length → listed.getD j false = decide (j < m)) → l.length - m ≤ fuel → wpAny P .any l.toArray Q fuel listed a w
/-- The post of a stretch: behind it the region goes on. -/
def QR (P : Program) (l : List Oper) (Q : Exit → Act → World → Prop) (m : Nat) : Exit → Act → World → Prop
  | .normal, a, w => Reg P l Q m a w
  | e, a, w => Q e a w
theorem QR.mk {Q : Exit → Act → World → Prop} {a : Act} {w : World} (h : Reg P l Q m a w) : QR P l Q m .normal a w := h
theorem reg_end {Q : Exit → Act → World → Prop} {a : Act} {w : World} (hm : l.length ≤ m) (h : Q .normal a w) : Reg P l Q m a w := fun listed fuel hs hL hf => by
  refine wpAny_done ?_ h fuel
  rw [List.eq_nil_iff_forall_not_mem]
  intro i hi
  obtain ⟨h1, h2, _⟩ := ready_facts hs hi
  rw [hL i h1] at h2; simp at h2; omega
theorem reg_start {Q : Exit → Act → World → Prop} {id : Nat} {w : World} (hm : P.follows .mixedOrders = true) (h : Reg P l Q 0 a0 w.drew) : (Code.region id l.toArray true).wp P Q a0 w := by
  refine wp_region_any hm (h _ _ (by simp) (fun j _ => ?_) (by simp))
  simp only [Array.getD, Array.size_replicate]
  split <;> simp
/-- Nothing behind m is ready but what waits for nothing from m on. -/
theorem reg_ready {sz : Nat} (hB : BaseF l T sz) {listed : Array Bool} (hs : listed.size = l.length) (hcl : ∀ j, listed.getD j false = true → ∀ k ∈ T.getD j [], listed.getD k false = true)
    {i : Nat} (hi : i ∈ Region.ready .any l.toArray listed) : ∀ k ∈ T.getD i [], listed.getD k false = true := fun k hk => by
  obtain ⟨h1, h2, o, ho, hdeps⟩ := ready_facts hs hi
  obtain ⟨_, e, he, hb, hj⟩ := hB.clos i o ho k hk
  have hle := hdeps e he hb
  rcases hj with rfl | hj
  · exact hle
  · exact hcl _ hle k hj
theorem closed_first {sz : Nat} (hB : BaseF l T sz) {listed : Array Bool} (hs : listed.size = l.length) (hL : ∀ j, j < l.length → listed.getD j false = decide (j < m)) : ∀ j, listed.getD j false = true → ∀ k ∈ T.getD j [], listed.getD k false = true := fun j hj k hk => by
  have hjl : j < l.length := by
    rcases Nat.lt_or_ge j l.length with h | h
    · exact h
    · have : listed.getD j false = false := by simp [Array.getD, show ¬ j < listed.size by omega]
      rw [this] at hj; cases hj
  obtain ⟨o, ho⟩ : ∃ o, l[j]? = some o := ⟨_, List.getElem?_eq_getElem hjl⟩
  have hkj := (hB.clos j o ho k hk).1
  rw [hL j hjl] at hj
  rw [hL k (by omega)]
  have : j < m := by simpa using hj
  simp; omega
theorem ready_of {sz : Nat} (hB : BaseF l T sz) {listed : Array Bool} (hs : listed.size = l.length) {j : Nat} (hj : j < l.length) (hu : listed.getD j false = false) (hl : ∀ k, k < j → listed.getD k false = true) : j ∈ Region.ready .any l.toArray listed := by
  obtain ⟨o, ho⟩ : ∃ o, l[j]? = some o := ⟨_, List.getElem?_eq_getElem hj⟩
  rw [mem_ready]
  refine ⟨?_, o, by simpa using ho, fun e he hb => hl _ (hB.back j o ho e he hb)⟩
  have hlt : j < listed.size := by omega
  simpa [Array.getD, hlt] using hu
theorem set_first {listed : Array Bool} (hs : listed.size = l.length) (hm : m < l.length) (hL : ∀ j, j < l.length → listed.getD j false = decide (j < m)) : ∀ j, j < l.length → (listed.setIfInBounds m true).getD j false = decide (j < m + 1) := fun j hj => by
  by_cases hij : m = j
  · subst hij
    have : m < listed.size := by omega
    simp [Array.getD, this]
  · rw [getD_set_ne false hij, hL j hj]
    congr 1
    apply propext; omega

/-- One forced operation. -/
theorem reg_one {Q : Exit → Act → World → Prop} {sz : Nat} {o : Oper} {a : Act} {w : World} (hB : BaseF l T sz) (hW : WaitF l m (m + 1) T) (ho : l[m]? = some o)
    (h : wpOp P l.toArray Q m (Reg P l Q (m + 1)) a w) : Reg P l Q m a w := fun listed fuel hs hL hf => by
  have hml : m < l.length := by have := hW.top; omega
  obtain ⟨fuel, rfl⟩ : ∃ f, fuel = f + 1 := ⟨fuel - 1, by omega⟩
  have hcl := closed_first hB hs hL
  have hr0 := ready_of hB hs hml (by rw [hL m hml]; simp) (fun k hk => by rw [hL k (by omega)]; simpa using hk)
  refine ⟨fun hr => (by rw [hr] at hr0; cases hr0), fun i hi => ?_⟩
  have him : i = m := by
    obtain ⟨h1, h2, _⟩ := ready_facts hs hi
    rw [hL i h1] at h2
    have h3 : m ≤ i := by simpa using h2
    rcases Nat.eq_or_lt_of_le h3 with h' | h'
    · exact h'.symm
    · have := reg_ready hB hs hcl hi m (hW.wait i h1 (by omega) m (Nat.le_refl _) (by omega))
      rw [hL m hml] at this; simp at this
  subst him
  exact wpOp_mono (fun a' w' hh => hh _ _ (by simpa using hs) (set_first hs hml hL) (by omega)) h

/-- A stretch of forced operations. -/
theorem reg_seq_ {Q : Exit → Act → World → Prop} {sz : Nat} (hB : BaseF l T sz) : ∀ (k m : Nat) (a : Act) (w : World), (∀ i, i < k → WaitF l (m + i) (m + i + 1) T) →
    wpList P l.toArray (QR P l Q (m + k)) ((l.drop m).take k) a w → Reg P l Q m a w
  | 0, m, a, w, _, h => by simpa [wpList, QR] using h
  | k + 1, m, a, w, hW, h => by
    have hW0 := hW 0 (by omega)
    have hml : m < l.length := by have := hW0.top; omega
    obtain ⟨o, ho⟩ : ∃ o, l[m]? = some o := ⟨_, List.getElem?_eq_getElem hml⟩
    have hdrop : (l.drop m).take (k + 1) = o :: (l.drop (m + 1)).take k := by
      rw [List.drop_eq_getElem_cons hml, List.take_succ_cons]
      congr 1
      exact (List.getElem?_eq_some_iff.1 ho).2
    rw [hdrop, show m + (k + 1) = (m + 1) + k by omega] at h
    refine reg_one hB hW0 ho ?_
    unfold wpOp
    simp only [List.getElem?_toArray, ho]
    unfold wpList at h
    have hgo : ∀ a' w', wpList P l.toArray (QR P l Q (m + 1 + k)) ((l.drop (m + 1)).take k) a' w' → Reg P l Q (m + 1) a' w' := fun a' w' hh => reg_seq_ hB k (m + 1) a' w' (fun i hi => by have := hW (i + 1) (by omega); rwa [show m + (i + 1) = m + 1 + i by omega] at this) hh
    split
    · rename_i hw
      rw [if_pos hw] at h
      rcases h with h | ⟨h1, h2⟩
      · refine .inl ?_
        have h' : o.wp P a w (Reg P l Q (m + 1)) (QR P l Q (m + 1 + k)) := Oper.wp_mono hgo h
        unfold Oper.wp at *
        generalize (execOp a.eval o).run P w = r at *
        cases r with
        | ok nx w' =>
          cases nx <;> simp only [Oper.upon] at h' ⊢
          case value u => exact h'
          case skip => exact h'
          case defer d => exact h'
          case enter f args => exact Calls.mono h' fun e w'' he => by cases e <;> exact he
          case row row args => exact h'
        | halt x w' => cases x <;> simp only [Oper.upon] at h' ⊢ <;> exact h'
      · obtain ⟨x, y, hx⟩ := h2
        exact .inr ⟨h1, x, y, hx⟩
    · rename_i hw
      rw [if_neg hw] at h
      exact hgo _ _ h
/-- The check of a stretch. -/
def seqOk (l : List Oper) (m k : Nat) (T : List (List Nat)) : Bool := (List.range k).all fun i => waitOk l (m + i) (m + i + 1) T
theorem reg_seq {Q : Exit → Act → World → Prop} {a : Act} {w : World} (sz k : Nat) (T : List (List Nat)) {s : List Oper} {mk : Nat} (hb : baseOk l T sz = true) (hk : seqOk l m k T = true) (hs : (l.drop m).take k = s) (hmk : m + k = mk) (h : wpList P l.toArray (QR P l Q mk) s a w) : Reg P l Q m a w := by
  subst hs; subst hmk
  refine reg_seq_ (baseOk_facts hb) k m a w (fun i hi => ?_) h
  simp only [seqOk, List.all_eq_true, List.mem_range] at hk
  exact waitOk_facts (hk i hi)

theorem reg_seq' {Q : Exit → Act → World → Prop} {a : Act} {w : World} (sz k : Nat) (T : List (List Nat)) (hb : baseOk l T sz = true) (hk : seqOk l m k T = true) (h : wpList P l.toArray (QR P l Q (m + k)) ((l.drop m).take k) a w) : Reg P l Q m a w :=
  reg_seq sz k T hb hk rfl rfl h

theorem uno_done {Q : Exit → Act → World → Prop} {sz : Nat} {w0 : World} (hB : BaseF l T sz) (hW : WaitF l m n T) (hF : ApartF l m n T) (hsz : a0.tmps.size = sz)
    (htail : ∀ v w', R w0 w' → Posts m post v w' (List.range' m (n - m)) → Apart F v → Reg P l Q n (puts l v (List.range' m (n - m)) a0) w')
    (fuel : Nat) (listed : Array Bool) (a : Act) (w : World) (v : Nat → Value) (hs : listed.size = l.length) (hu : l.length - n ≤ fuel)
    (hnl : ∀ j, n ≤ j → j < l.length → listed.getD j false = false) (hd : a.defers = a0.defers) (has : a.tmps.size = sz) (hsl : ∀ t, a.tmps.getD t undef = slotV l m n v a0 (fun j => listed.getD j false) t) (hR : R w0 w)
    (hp : ∀ j, m ≤ j → j < n → listed.getD j false = true → ∀ p, post[j - m]? = some p → p (v j) w) (hap : Apart F v) (hall : ∀ j, j < n → listed.getD j false = true) : wpAny P .any l.toArray Q fuel listed a w := by
  have hL : ∀ j, j < l.length → listed.getD j false = decide (j < n) := fun j hj => by
    by_cases hjn : j < n
    · rw [hall j hjn]; simp [hjn]
    · rw [hnl j (by omega) hj]; simp [hjn]
  have hJ : ∀ j ∈ List.range' m (n - m), m ≤ j ∧ j < n := fun j hj => by
    have := List.mem_range'_1.1 hj
    have := hW.le
    omega
  have haa : a = puts l v (List.range' m (n - m)) a0 := act_ext (by simp [has, hsz]) (by simp [hd]) (fun t => by
    rw [hsl t, puts_eq_slotV hB hF hsz v _ hJ]
    refine slotV_congr hF (fun j hm hj => ?_) (fun _ _ _ _ => rfl)
    rw [hall j hj]
    have : j ∈ List.range' m (n - m) := List.mem_range'_1.2 (by omega)
    simpa using this)
  rw [haa]
  exact htail v w hR (posts_iff.2 (fun j hj p hpj => hp j (hJ j hj).1 (hJ j hj).2 (hall j (hJ j hj).2) p hpj)) hap listed fuel hs hL hu

theorem uno_main {Q : Exit → Act → World → Prop} {sz : Nat} {w0 : World} (hB : BaseF l T sz) (hW : WaitF l m n T) (hF : ApartF l m n T) (hsz : a0.tmps.size = sz) (htr : ∀ {a b c : World}, R a b → R b c → R a c) (hsize : ∀ {a b : World}, R a b → a.heap.size ≤ b.heap.size) (hst : Stab R post)
    (hstep : ∀ v, USteps P l m F R post T v a0 w0 m (n - m))
    (htail : ∀ v w', R w0 w' → Posts m post v w' (List.range' m (n - m)) → Apart F v → Reg P l Q n (puts l v (List.range' m (n - m)) a0) w') :
    ∀ (fuel : Nat) (listed : Array Bool) (a : Act) (w : World) (v : Nat → Value), listed.size = l.length → unl n listed + (l.length - n) ≤ fuel → (∀ j, j < m → listed.getD j false = true) →
      (∀ j, n ≤ j → j < l.length → listed.getD j false = false) → (∀ j, listed.getD j false = true → ∀ k ∈ T.getD j [], listed.getD k false = true) →
      a.defers = a0.defers → a.tmps.size = sz → (∀ t, a.tmps.getD t undef = slotV l m n v a0 (fun j => listed.getD j false) t) → R w0 w →
      (∀ j, m ≤ j → j < n → listed.getD j false = true → ∀ p, post[j - m]? = some p → p (v j) w) →
      (∀ j, m ≤ j → listed.getD j false = true → F.contains j = true → ∀ g, blkOf (v j) = some g → g < w.heap.size) → Apart F v → (∀ j, (j < m ∨ listed.getD j false = false) → v j = undef) → wpAny P .any l.toArray Q fuel listed a w := by
  intro fuel
  induction fuel with
  | zero =>
    intro listed a w v hs hu hfm hnl hcl hd has hsl hR hp hold hap hun
    have hall : ∀ j, j < n → listed.getD j false = true := fun j hj => by
      cases h : listed.getD j false with
      | true => rfl
      | false => have := unl_pos hj h; omega
    exact uno_done hB hW hF hsz htail 0 listed a w v hs (by omega) hnl hd has hsl hR hp hap hall
  | succ fuel ih =>
    intro listed a w v hs hu hfm hnl hcl hd has hsl hR hp hold hap hun
    by_cases hall : ∀ j, j < n → listed.getD j false = true
    · have := hW.top
      exact uno_done hB hW hF hsz htail _ listed a w v hs (by omega) hnl hd has hsl hR hp hap hall
    · obtain ⟨j0, hj0, hu0, hl0⟩ : ∃ j, j < n ∧ listed.getD j false = false ∧ ∀ k, k < j → listed.getD k false = true := by
        refine least (p := fun j => listed.getD j false) ?_
        refine Classical.byContradiction fun h => hall fun j hj => ?_
        cases hx : listed.getD j false with
        | true => rfl
        | false => exact absurd ⟨j, hj, hx⟩ h
      have hj0m : m ≤ j0 := by
        rcases Nat.lt_or_ge j0 m with h | h
        · rw [hfm j0 h] at hu0; cases hu0
        · exact h
      have hr0 := ready_of hB hs (Nat.lt_of_lt_of_le hj0 hW.top) hu0 hl0
      refine ⟨fun h => (by rw [h] at hr0; cases hr0), fun i hi => ?_⟩
      obtain ⟨h1, h2, o, ho, hdeps⟩ := ready_facts hs hi
      have hT := reg_ready hB hs hcl hi
      have hmi : m ≤ i := by
        rcases Nat.lt_or_ge i m with h | h
        · rw [hfm i h] at h2; cases h2
        · exact h
      have hin : i < n := by
        rcases Nat.lt_or_ge i n with h | h
        · exact h
        · have := hT j0 (hW.wait i h1 h j0 hj0m hj0)
          rw [hu0] at this; cases this
      have hTf : ∀ k ∈ from_ T m i, k ∈ T.getD i [] ∧ m ≤ k ∧ k < i := fun k hk => by
        simp only [from_, List.mem_filter, decide_eq_true_eq] at hk
        exact ⟨hk.1, hk.2, (hB.clos i o ho k hk.1).1⟩
      have hTi : ∀ k ∈ from_ T m i, m ≤ k ∧ k < n := fun k hk => by have := hTf k hk; omega
      have hst1 := usteps_at (hstep v) i hmi (by omega)
      unfold UStep at hst1
      simp only [ho] at hst1
      have hst2 := hst1 w hR (posts_iff.2 (fun k hk p hpk => hp k (hTf k hk).2.1 (hTi k hk).2 (hT k (hTf k hk).1) p hpk))
      have hdef : (puts l v (from_ T m i) a0).defers = a0.defers := by simp
      rw [← hdef] at hst2
      refine op_move ho (fun cs b => hB.sel i o cs b ho) (c := puts l v (from_ T m i) a0) (by simp [has, hsz]) (fun d hd => by simp [hsz]; exact hB.slot i o d ho hd) ?_ hst2 ?_
      · intro t ht
        rw [hsl t, puts_eq_slotV hB hF hsz v _ hTi]
        by_cases hx : ∃ (j : Nat) (o' : Oper), m ≤ j ∧ j < n ∧ l[j]? = some o' ∧ o'.dst = some t ∧ listed.getD j false = true
        · obtain ⟨j, o', hjm, hjn, ho', hd', hL⟩ := hx
          have hne : j ≠ i := by rintro rfl; rw [h2] at hL; cases hL
          have hji : j ∈ T.getD i [] := by
            rcases hF.look j o' t hjm hjn ho' hd' i o hmi hin ho hne ht with h | h
            · exact h
            · have := hcl j hL i h; rw [h2] at this; cases this
          rw [slotV_some hF hjm hjn hL ho' hd', slotV_some hF hjm hjn (by simpa [from_, hjm] using hji) ho' hd']
        · have h1' : ∀ (j : Nat) (o' : Oper), m ≤ j → j < n → l[j]? = some o' → o'.dst = some t → listed.getD j false = false := fun j o' hjm hjn ho' hd' => by
            cases hL : listed.getD j false with
            | false => rfl
            | true => exact absurd ⟨j, o', hjm, hjn, ho', hd', hL⟩ hx
          rw [slotV_none h1', slotV_none (fun j o' hjm hjn ho' hd' => by
            cases hc : (from_ T m i).contains j with
            | false => rfl
            | true => have := hT j (hTf j (by simpa using hc)).1; rw [h1' j o' hjm hjn ho' hd'] at this; cases this)]
      · rintro u w' ⟨hRw, hpu, hfr⟩
        have his : i < listed.size := by omega
        have hgi : (listed.setIfInBounds i true).getD i false = true := by simp [his]
        have hgn : ∀ j, i ≠ j → (listed.setIfInBounds i true).getD j false = listed.getD j false := fun j hj => getD_set_ne false hj
        refine ih _ _ w' (fun j => if j = i then (match o.dst with | some _ => u | none => undef) else v j) (by simpa using hs) (by have := unl_set hin his h2; omega) ?_ ?_ ?_ (by simp [hd]) (by simp [has]) ?_ (htr hR hRw) ?_ ?_ ?_ ?_
        · intro j hj
          rw [hgn j (by omega)]; exact hfm j hj
        · intro j hj hjl
          rw [hgn j (by omega)]; exact hnl j hj hjl
        · intro j hj k hk
          by_cases hjk : i = k
          · subst hjk; exact hgi
          · rw [hgn k hjk]
            by_cases hji : i = j
            · subst hji; exact hT k hk
            · rw [hgn j hji] at hj; exact hcl j hj k hk
        · intro t
          rw [put_getD (fun x hx => by rw [has]; exact hB.slot i o x ho hx)]
          by_cases hdt : o.dst = some t
          · rw [if_pos hdt, slotV_some hF (j := i) hmi hin hgi ho hdt]; simp [hdt]
          · rw [if_neg hdt, hsl t]
            by_cases hx : ∃ (j : Nat) (o' : Oper), m ≤ j ∧ j < n ∧ l[j]? = some o' ∧ o'.dst = some t ∧ listed.getD j false = true
            · obtain ⟨j, o', hjm, hjn, ho', hd', hL⟩ := hx
              have hne : j ≠ i := by rintro rfl; rw [h2] at hL; cases hL
              rw [slotV_some hF hjm hjn hL ho' hd', slotV_some hF (j := j) hjm hjn (by show (listed.setIfInBounds i true).getD j false = true; rw [hgn j (Ne.symm hne)]; exact hL) ho' hd', if_neg hne]
            · have h1' : ∀ (j : Nat) (o' : Oper), m ≤ j → j < n → l[j]? = some o' → o'.dst = some t → listed.getD j false = false := fun j o' hjm hjn ho' hd' => by
                cases hL : listed.getD j false with
                | false => rfl
                | true => exact absurd ⟨j, o', hjm, hjn, ho', hd', hL⟩ hx
              rw [slotV_none h1', slotV_none (fun j o' hjm hjn ho' hd' => by
                have hne : i ≠ j := by rintro rfl; rw [ho] at ho'; injection ho' with ho'; subst ho'; exact hdt hd'
                show (listed.setIfInBounds i true).getD j false = false
                rw [hgn j hne]; exact h1' j o' hjm hjn ho' hd')]
        · intro j hjm hj hL p hpj
          by_cases hji : j = i
          · subst hji
            simp only [hpj, if_true] at hpu ⊢
            exact hpu
          · simp only [if_neg hji]
            rw [hgn j (Ne.symm hji)] at hL
            exact stab_at hst (j - m) p hpj _ _ _ hRw (hp j hjm hj hL p hpj)
        · intro j hjm hL hFj g hg
          by_cases hji : j = i
          · subst hji
            simp only [if_true] at hg
            exact (hfr hFj g hg).2
          · simp only [if_neg hji] at hg
            rw [hgn j (Ne.symm hji)] at hL
            exact Nat.lt_of_lt_of_le (hold j hjm hL hFj g hg) (hsize hRw)
        · have old : ∀ j, j ≠ i → F.contains j = true → ∀ g, blkOf (v j) = some g → g < w.heap.size := fun j hji hFj g hg => by
            by_cases hjm : m ≤ j
            · cases hLj : listed.getD j false with
              | true => exact hold j hjm hLj hFj g hg
              | false => rw [hun j (.inr hLj)] at hg; cases hg
            · rw [hun j (.inl (by omega))] at hg; cases hg
          intro j k hFj hFk hjk g hg hg'
          by_cases hji : j = i
          · subst hji
            simp only [if_true] at hg
            simp only [if_neg (Ne.symm hjk)] at hg'
            have h1 := (hfr hFj g hg).1
            have := old k (Ne.symm hjk) hFk g hg'; omega
          · by_cases hki : k = i
            · subst hki
              simp only [if_true] at hg'
              simp only [if_neg hji] at hg
              have h1 := (hfr hFk g hg').1
              have := old j hji hFj g hg; omega
            · simp only [if_neg hji] at hg
              simp only [if_neg hki] at hg'
              exact hap j k hFj hFk hjk g hg hg'
        · intro j hL
          have hji : j ≠ i := by
            rintro rfl
            rcases hL with h | h
            · omega
            · rw [hgi] at h; cases h
          simp only [if_neg hji]
          rw [hgn j (Ne.symm hji)] at hL
          exact hun j hL

theorem usteps_nil {v : Nat → Value} {w0 : World} {i : Nat} : USteps P l m F R post T v a0 w0 i 0 := trivial
theorem usteps_cons {v : Nat → Value} {w0 : World} {i k : Nat} (h : UStep P l m F R post T v a0 w0 i) (hs : USteps P l m F R post T v a0 w0 (i + 1) k) : USteps P l m F R post T v a0 w0 i (k + 1) := ⟨h, hs⟩
/-- The slots, filled: the form for the walk. -/
def putD (D : List (Option Tmp)) (v : Nat → Value) : List Nat → Act → Act
  | [], a => a
  | j :: r, a => putD D v r (a.put (D.getD j none) (v j))
theorem putD_eq {D : List (Option Tmp)} (hD : l.map (·.dst) = D) (v : Nat → Value) : ∀ (J : List Nat) (a : Act), puts l v J a = putD D v J a
  | [], _ => rfl
  | j :: J, a => by
    have e : (l[j]?).bind (·.dst) = D.getD j none := by
      subst hD
      rw [List.getD_eq_getElem?_getD, List.getElem?_map]
      cases l[j]? <;> rfl
    rw [puts, putD, e, putD_eq hD]
theorem ustep_mk {v : Nat → Value} {w0 : World} {i : Nat} {o : Oper} {Ti : List Nat} {p : Value → World → Prop} {D : List (Option Tmp)} (hD : l.map (·.dst) = D) (ho : l[i]? = some o) (hT : from_ T m i = Ti) (hp : post[i - m]? = some p)
    (h : ∀ w, R w0 w → Posts m post v w Ti → wpList P l.toArray (Q1 o.dst a0.defers (fun u w' => R w w' ∧ p u w' ∧ FrOk F i w u w')) [o] (putD D v Ti a0) w) : UStep P l m F R post T v a0 w0 i := by
  subst hT
  rw [← putD_eq hD] at h
  unfold UStep
  simp only [ho, hp]
  exact h
theorem stab_nil : Stab R [] := trivial
theorem stab_cons {p : Value → World → Prop} (h : ∀ u w w', R w w' → p u w → p u w') (hs : Stab R post) : Stab R (p :: post) := ⟨h, hs⟩

/-- **A stretch in whatever order**, the world drifting by a frame. -/
theorem reg_uno {Q : Exit → Act → World → Prop} {w : World} {D : List (Option Tmp)} {J : List Nat} {k : Nat} (n : Nat) (F : List Nat) (post : List (Value → World → Prop)) (T : List (List Nat))
    (hb : baseOk l T a0.tmps.size = true) (hw : waitOk l m n T = true) (ha : apartOk l m n T = true) (hD : l.map (·.dst) = D) (hk : n - m = k) (hJ : List.range' m (n - m) = J) (hst : Stab (Fr (fun _ => False)) post)
    (hstep : ∀ v, USteps P l m F (Fr (fun _ => False)) post T v a0 w m k)
    (htail : ∀ v w', Fr0 w w' → Posts m post v w' J → Apart F v → Reg P l Q n (putD D v J a0) w') : Reg P l Q m a0 w := fun listed fuel hs hL hf => by
  subst hk; subst hJ
  simp only [← putD_eq hD] at htail
  have hB := baseOk_facts hb
  have hW := waitOk_facts hw
  have hle := hW.le
  have htop := hW.top
  have hdec : ∀ j, listed.getD j false = true → j < m := fun j hj => by
    rcases Nat.lt_or_ge j l.length with h | h
    · rw [hL j h] at hj; simpa using hj
    · have : listed.getD j false = false := by simp [Array.getD, show ¬ j < listed.size by omega]
      rw [this] at hj; cases hj
  have e1 : ∀ j, j < m → listed.getD j false = true := fun j hj => by rw [hL j (by omega)]; simpa using hj
  have e2 : ∀ j, n ≤ j → j < l.length → listed.getD j false = false := fun j hj hjl => by rw [hL j hjl]; simp; omega
  have e3 : ∀ j, m ≤ j → j < n → listed.getD j false = true → ∀ p, post[j - m]? = some p → p undef w := fun j hj _ hl => absurd (hdec j hl) (by omega)
  have e4 : ∀ j, m ≤ j → listed.getD j false = true → F.contains j = true → ∀ g, blkOf undef = some g → g < w.heap.size := fun j hj hl => absurd (hdec j hl) (by omega)
  refine uno_main (w0 := w) (R := Fr (fun _ => False)) (post := post) (T := T) (F := F) (m := m) (n := n) hB hW (apartOk_facts ha) rfl (fun h k => h.trans k) (fun h => h.size) hst hstep htail fuel listed a0 w (fun _ => undef) hs ?_
    e1 e2 (closed_first hB hs hL) rfl rfl (fun t => ?_) (Fr.refl _ _) e3 e4 (fun _ _ _ _ _ _ hg => by cases hg) (fun _ _ => rfl)
  · have : unl n listed ≤ n - m := by
      unfold unl
      have hh : (List.range n).filter (fun j => !listed.getD j false) = (List.range n).filter (fun j => !decide (j < m)) := List.filter_congr (fun j hj => by rw [hL j (by have := List.mem_range.1 hj; omega)])
      rw [hh, show List.range n = List.range' 0 m ++ List.range' m (n - m) by rw [List.range_eq_range', show n = m + (n - m) by omega, ← List.range'_append_1]; simp, List.filter_append]
      rw [List.filter_eq_nil_iff.2 (fun j hj => by simp [List.mem_range'_1] at hj; simp; omega)]
      simp only [List.nil_append]
      exact Nat.le_trans (List.length_filter_le _ _) (by simp)
    omega
  · rw [slotV_none (fun j _ hmj hjn _ _ => by rw [hL j (by omega)]; simp; omega)]
end
/-- Facts on values and blocks that stay. -/
def PV (x : Value) : Value → World → Prop := fun u _ => u = x
def PB (n : Nat) (t : TypeId) (c : Array Value) : Value → World → Prop := fun u w => ∃ g, u = .pointer (some ⟨g, 0, none⟩) ∧ n ≤ g ∧ Blk w g t c
theorem PV.stab (x : Value) : ∀ u w w', Fr (fun _ => False) w w' → PV x u w → PV x u w' := fun _ _ _ _ h => h
theorem PB.stab (n : Nat) (t : TypeId) (c : Array Value) : ∀ u w w', Fr (fun _ => False) w w' → PB n t c u w → PB n t c u w' := fun _ _ _ h ⟨g, h1, h2, h3⟩ => ⟨g, h1, h2, h3.fr h (fun h => h)⟩
theorem pb_new {n : Nat} {w : World} {t : TypeId} {c : Array Value} (h : n ≤ w.heap.size) : PB n t c (.pointer (some ⟨w.heap.size, 0, none⟩)) (w.alloc (.cells c t)) := ⟨_, rfl, h, Blk.new _ _ _⟩
theorem frok_new {F : List Nat} {i : Nat} {w : World} {ob : Obj} : FrOk F i w (.pointer (some ⟨w.heap.size, 0, none⟩)) (w.alloc ob) := fun _ x hx => by
  simp only [blkOf, Option.some.injEq] at hx; subst hx; simp
theorem apart_ptr {F : List Nat} {v : Nat → Value} (h : Apart F v) {j k g g' : Nat} (hj : v j = .pointer (some ⟨g, 0, none⟩)) (hk : v k = .pointer (some ⟨g', 0, none⟩)) (h1 : F.contains j = true) (h2 : F.contains k = true) (hne : j ≠ k) : g ≠ g' := by
  rintro rfl
  exact h j k h1 h2 hne g (by rw [hj]; rfl) (by rw [hk]; rfl)
theorem frok_no {F : List Nat} {i : Nat} {w w' : World} {u : Value} (h : F.contains i = false) : FrOk F i w u w' := fun h' => by rw [h] at h'; cases h'
theorem frok_ptr {F : List Nat} {i g : Nat} {w w' : World} (h1 : w.heap.size ≤ g) (h2 : g < w'.heap.size) : FrOk F i w (.pointer (some ⟨g, 0, none⟩)) w' := fun _ x hx => by
  simp only [blkOf, Option.some.injEq] at hx; subst hx; exact ⟨h1, h2⟩
/-- A new slice of k cells. -/
def PS (n : Nat) (t : TypeId) (c : Array Value) (k : Nat) : Value → World → Prop := fun u w => ∃ g, u = .slice (some ⟨g, 0, none⟩) k k ∧ n ≤ g ∧ Blk w g t c
theorem PS.stab (n : Nat) (t : TypeId) (c : Array Value) (k : Nat) : ∀ u w w', Fr (fun _ => False) w w' → PS n t c k u w → PS n t c k u w' := fun _ _ _ h ⟨g, h1, h2, h3⟩ => ⟨g, h1, h2, h3.fr h (fun h => h)⟩
theorem ps_new {n k : Nat} {w : World} {t : TypeId} {c : Array Value} (h : n ≤ w.heap.size) : PS n t c k (.slice (some ⟨w.heap.size, 0, none⟩) k k) (w.alloc (.cells c t)) := ⟨_, rfl, h, Blk.new _ _ _⟩
end Go.Proofs.Ytnholkjgdpapbaa
