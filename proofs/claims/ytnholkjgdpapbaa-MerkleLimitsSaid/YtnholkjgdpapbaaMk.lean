/- Trees of hashes as plain functions over any join: levels, nodes, paths, the highest difference, the pending nodes of a builder. No condition. -/
import Derived.Test.YtnholkjgdpapbaaWords
namespace Go.Proofs.Ytnholkjgdpapbaa
set_option linter.unusedVariables false
set_option linter.unusedSimpArgs false
set_option linter.unusedSectionVars false
namespace Mk
section
variable {α : Type} [Inhabited α] (J : Nat → α → α → α)

/-- The next level of a tree. -/
def up (k : Nat) : List α → List α
  | a :: b :: r => J k a b :: up k r
  | _ => []
def lev (l : List α) : Nat → List α
  | 0 => l
  | k + 1 => up J (k + 1) (lev l k)
/-- Node k of level n. -/
def node (l : List α) : Nat → Nat → α
  | 0, k => l.getD k default
  | n + 1, k => J (n + 1) (node l n (2 * k)) (node l n (2 * k + 1))

omit [Inhabited α] in
theorem up_length (k : Nat) : ∀ l : List α, (up J k l).length = l.length / 2
  | [] => by simp [up]
  | [_] => by simp [up]
  | a :: b :: r => by simp only [up, List.length_cons, up_length k r]; omega
theorem up_get (k : Nat) : ∀ (l : List α) (i : Nat), i < l.length / 2 → (up J k l)[i]? = some (J k (l.getD (2 * i) default) (l.getD (2 * i + 1) default))
  | [], i, h => by simp at h
  | [_], i, h => by simp at h
  | a :: b :: r, 0, h => by simp [up]
  | a :: b :: r, i + 1, h => by
    simp only [List.length_cons] at h
    have := up_get k r i (by omega)
    simp only [up, List.getElem?_cons_succ, this]
    rw [show 2 * (i + 1) = 2 * i + 1 + 1 by omega]
    simp
theorem lev_length (l : List α) : ∀ k, (lev J l k).length = l.length / 2 ^ k
  | 0 => by simp [lev]
  | k + 1 => by rw [lev, up_length, lev_length l k, Nat.div_div_eq_div_mul, Nat.pow_succ]
theorem lev_get (l : List α) : ∀ k i, i < l.length / 2 ^ k → (lev J l k)[i]? = some (node J l k i)
  | 0, i, h => by
    have h' : i < l.length := by simpa using h
    simp [lev, node, List.getD, h']
  | k + 1, i, h => by
    have h' : i < l.length / 2 ^ k / 2 := by rw [Nat.div_div_eq_div_mul, ← Nat.pow_succ]; exact h
    rw [lev, up_get J (k + 1) (lev J l k) i (by rw [lev_length]; exact h')]
    have h1 := lev_get l k (2 * i) (by omega)
    have h2 := lev_get l k (2 * i + 1) (by omega)
    simp only [List.getD, h1, h2, node, Option.getD_some]
theorem node_congr {l l' : List α} : ∀ {n k k' : Nat}, (∀ j, j < 2 ^ n → l'.getD (k' * 2 ^ n + j) default = l.getD (k * 2 ^ n + j) default) → node J l' n k' = node J l n k
  | 0, k, k', h => by have := h 0 (by simp); simpa [node] using this
  | n + 1, k, k', h => by
    have hp := Nat.pow_succ 2 n
    rw [node, node]
    rw [node_congr (n := n) (k := 2 * k) (k' := 2 * k') (fun j hj => by
        have := h j (by omega)
        rw [show k' * 2 ^ (n + 1) = 2 * k' * 2 ^ n by rw [hp, Nat.mul_comm (2 ^ n) 2, ← Nat.mul_assoc, Nat.mul_comm k' 2], show k * 2 ^ (n + 1) = 2 * k * 2 ^ n by rw [hp, Nat.mul_comm (2 ^ n) 2, ← Nat.mul_assoc, Nat.mul_comm k 2]] at this
        exact this)]
    rw [node_congr (n := n) (k := 2 * k + 1) (k' := 2 * k' + 1) (fun j hj => by
        have := h (2 ^ n + j) (by omega)
        rw [show k' * 2 ^ (n + 1) + (2 ^ n + j) = (2 * k' + 1) * 2 ^ n + j by rw [hp, Nat.add_mul, Nat.one_mul, Nat.mul_comm (2 ^ n) 2, ← Nat.mul_assoc, Nat.mul_comm k' 2]; omega, show k * 2 ^ (n + 1) + (2 ^ n + j) = (2 * k + 1) * 2 ^ n + j by rw [hp, Nat.add_mul, Nat.one_mul, Nat.mul_comm (2 ^ n) 2, ← Nat.mul_assoc, Nat.mul_comm k 2]; omega] at this
        exact this)]

/-! The way from a leaf to the root. -/
/-- Is bit k of i set? -/
def bit (i k : Nat) : Bool := decide ((i >>> k) % 2 = 1)
def atN (leaf : α) (i : Nat) (path : List α) : Nat → α
  | 0 => leaf
  | k + 1 => if bit i k then J (k + 1) (path.getD k default) (atN leaf i path k) else J (k + 1) (atN leaf i path k) (path.getD k default)
def pairN (leaf : α) (i : Nat) (path : List α) (k : Nat) : α × α :=
  if bit i k then (path.getD k default, atN J leaf i path k) else (atN J leaf i path k, path.getD k default)
theorem atN_pair (leaf : α) (i : Nat) (path : List α) (k : Nat) : atN J leaf i path (k + 1) = J (k + 1) (pairN J leaf i path k).1 (pairN J leaf i path k).2 := by
  unfold pairN
  rw [atN]
  split <;> rfl
/-- The neighbour of a node. -/
def sib (x : Nat) : Nat := if x % 2 = 0 then x + 1 else x - 1
theorem sib_xor (x : Nat) : x ^^^ 1 = sib x := by
  unfold sib
  rcases Nat.mod_two_eq_zero_or_one x with h | h
  · rw [if_pos h]
    have := Nat.xor_comm x 1
    have h2 : x = 2 * (x / 2) := by omega
    apply Nat.eq_of_testBit_eq
    intro j
    rw [Nat.testBit_xor]
    cases j with
    | zero => simp [Nat.testBit_zero, h]; omega
    | succ j => simp [Nat.testBit_succ]; congr 1; omega
  · rw [if_neg (by omega)]
    apply Nat.eq_of_testBit_eq
    intro j
    rw [Nat.testBit_xor]
    cases j with
    | zero => simp [Nat.testBit_zero, h]; omega
    | succ j => simp [Nat.testBit_succ]; congr 1; omega
def pathN (l : List α) (i h : Nat) : List α := (List.range h).map (fun k => node J l k (sib (i >>> k)))
theorem pathN_length (l : List α) (i h : Nat) : (pathN J l i h).length = h := by simp [pathN]
theorem pathN_succ (l : List α) (i h : Nat) : pathN J l i (h + 1) = pathN J l i h ++ [node J l h (sib (i >>> h))] := by simp [pathN, List.range_succ]
theorem pathN_get (l : List α) (i h k : Nat) (hk : k < h) : (pathN J l i h).getD k default = node J l k (sib (i >>> k)) := by
  simp [pathN, List.getD, hk]
theorem shift_succ (i k : Nat) : i >>> (k + 1) = (i >>> k) / 2 := by
  rw [Nat.shiftRight_succ]
theorem atN_path (l : List α) (i h : Nat) : ∀ k, k ≤ h → atN J (l.getD i default) i (pathN J l i h) k = node J l k (i >>> k)
  | 0, _ => by simp [atN, node]
  | k + 1, hk => by
    rw [atN, atN_path l i h k (by omega), pathN_get J l i h k (by omega), shift_succ, node]
    unfold sib bit
    rcases Nat.mod_two_eq_zero_or_one (i >>> k) with h0 | h0
    · simp only [h0, decide_eq_true_eq]
      simp
      rw [show 2 * (i >>> k / 2) = i >>> k by omega]
    · simp only [h0, decide_eq_true_eq]
      simp
      rw [show i >>> k - 1 = 2 * (i >>> k / 2) by omega, show 2 * (i >>> k / 2) + 1 = i >>> k by omega]

/-! The highest level at which two ways differ. -/
variable [DecidableEq α]
def dl (a : α) (pa : List α) (b : α) (pb : List α) (i : Nat) : Nat → Nat
  | 0 => 0
  | k + 1 => if pairN J b i pb k ≠ pairN J a i pa k then k + 1 else dl a pa b pb i k
theorem dl_le (a : α) (pa : List α) (b : α) (pb : List α) (i : Nat) : ∀ n, dl J a pa b pb i n ≤ n
  | 0 => Nat.le_refl _
  | n + 1 => by
    rw [dl]
    split
    · exact Nat.le_refl _
    · exact Nat.le_succ_of_le (dl_le a pa b pb i n)
omit [DecidableEq α] in
theorem pair_eq {a b : α} {pa pb : List α} {i k : Nat} (h : pairN J b i pb k = pairN J a i pa k) : atN J b i pb k = atN J a i pa k ∧ pb.getD k default = pa.getD k default := by
  unfold pairN at h
  split at h
  · simp only [Prod.mk.injEq] at h; exact ⟨h.2, h.1⟩
  · simp only [Prod.mk.injEq] at h; exact h
/-- Two ways to one node: either nothing differs, or at the highest level that differs two pairs have one parent. -/
theorem dl_law (a : α) (pa : List α) (b : α) (pb : List α) (i : Nat) : ∀ n, atN J b i pb n = atN J a i pa n →
    (dl J a pa b pb i n = 0 ∧ b = a ∧ ∀ k, k < n → pb.getD k default = pa.getD k default) ∨
    (∃ m, dl J a pa b pb i n = m + 1 ∧ m < n ∧ pairN J b i pb m ≠ pairN J a i pa m ∧ J (m + 1) (pairN J b i pb m).1 (pairN J b i pb m).2 = J (m + 1) (pairN J a i pa m).1 (pairN J a i pa m).2)
  | 0, h => .inl ⟨rfl, h, fun k hk => by omega⟩
  | n + 1, h => by
    rw [dl]
    by_cases hd : pairN J b i pb n ≠ pairN J a i pa n
    · rw [if_pos hd]
      refine .inr ⟨n, rfl, by omega, hd, ?_⟩
      rw [← atN_pair J b i pb, ← atN_pair J a i pa, h]
    · rw [if_neg hd]
      have he := pair_eq J (Classical.not_not.1 hd)
      rcases dl_law a pa b pb i n he.1 with ⟨h1, h2, h3⟩ | ⟨m, h1, h2, h3, h4⟩
      · refine .inl ⟨h1, h2, fun k hk => ?_⟩
        rcases Nat.lt_or_ge k n with hlt | hge
        · exact h3 k hlt
        · obtain rfl : k = n := by omega
          exact he.2
      · exact .inr ⟨m, h1, by omega, h3, h4⟩
theorem dl_same (a : α) (pa : List α) (i : Nat) : ∀ n, dl J a pa a pa i n = 0
  | 0 => rfl
  | n + 1 => by rw [dl]; simp [dl_same a pa i n]

/-! The pending nodes of a builder. -/
/-- The root of the last whole subtree of height h among the first n leaves. -/
def pnode (l : List α) (n h : Nat) : α := node J l h ((n >>> h) - 1)
/-- The pending nodes from level h - 1 downwards. -/
def pend (l : List α) (n : Nat) : Nat → List α
  | 0 => []
  | h + 1 => (if bit n h then [pnode J l n h] else []) ++ pend l n h
theorem bit_lo (n h : Nat) : bit n h = decide (n % 2 ^ (h + 1) / 2 ^ h = 1) := by
  unfold bit
  rw [Nat.shiftRight_eq_div_pow, Nat.pow_succ, Nat.mod_mul_right_div_self]
omit [DecidableEq α] in
/-- What is left of n leaves below level h. -/
theorem pnode_drop (l : List α) (n h : Nat) (hn : n ≤ l.length) (hb : bit n h = true) :
    node J ((l.take n).drop (n - n % 2 ^ (h + 1)) |>.take (2 ^ h)) h 0 = pnode J l n h := by
  unfold pnode
  have hb' : (n >>> h) % 2 = 1 := of_decide_eq_true hb
  rw [Nat.shiftRight_eq_div_pow] at hb' ⊢
  have hd := Nat.div_add_mod n (2 ^ (h + 1))
  have hp : 2 ^ (h + 1) = 2 * 2 ^ h := by rw [Nat.pow_succ]; omega
  have hq : n / 2 ^ (h + 1) = n / 2 ^ h / 2 := by rw [Nat.div_div_eq_div_mul, Nat.pow_succ]
  have hk : n / 2 ^ h - 1 = 2 * (n / 2 ^ (h + 1)) := by rw [hq]; omega
  have hoff : n - n % 2 ^ (h + 1) = (n / 2 ^ h - 1) * 2 ^ h := by
    rw [hk, Nat.mul_comm 2, Nat.mul_assoc, ← hp, Nat.mul_comm]; omega
  have hle : (n / 2 ^ h - 1) * 2 ^ h + 2 ^ h ≤ n := by
    have h1 : (n / 2 ^ h - 1) * 2 ^ h + 2 ^ h = n / 2 ^ h * 2 ^ h := by
      have : n / 2 ^ h = n / 2 ^ h - 1 + 1 := by omega
      conv => rhs; rw [this, Nat.add_mul, Nat.one_mul]
    rw [h1]; exact Nat.div_mul_le_self n (2 ^ h)
  rw [hoff]
  generalize n / 2 ^ h - 1 = q at hle ⊢
  refine node_congr J (fun j hj => ?_)
  simp only [List.getD, Nat.zero_mul, Nat.zero_add]
  rw [List.getElem?_take, if_pos hj, List.getElem?_drop, List.getElem?_take, if_pos (by omega)]
theorem mod_step (n h : Nat) : n % 2 ^ (h + 1) = (if bit n h then 2 ^ h else 0) + n % 2 ^ h := by
  unfold bit
  rw [Nat.shiftRight_eq_div_pow, Nat.mod_pow_succ]
  rcases Nat.mod_two_eq_zero_or_one (n / 2 ^ h) with h0 | h0
  · simp [h0]
  · simp [h0]; omega
omit [DecidableEq α] in
theorem pend_length_one (l : List α) (n H : Nat) (hn : n < 2 ^ H) : (pend J l n H).length = 1 ↔ ∃ h, h < H ∧ n = 2 ^ h := by
  have key : ∀ H, (pend J l n H).length = 0 ↔ n % 2 ^ H = 0 := by
    intro H
    induction H with
    | zero => simp [pend, Nat.mod_one]
    | succ H ih =>
      rw [mod_step, pend]
      have := Nat.two_pow_pos H
      cases bit n H <;> simp_all <;> omega
  have key1 : ∀ H, (pend J l n H).length = 1 ↔ ∃ h, h < H ∧ n % 2 ^ H = 2 ^ h := by
    intro H
    induction H with
    | zero => simp [pend]
    | succ H ih =>
      rw [mod_step, pend]
      have hm := Nat.mod_lt n (Nat.two_pow_pos H)
      cases hb : bit n H with
      | true =>
        simp only [if_true, List.length_append, List.length_cons, List.length_nil]
        constructor
        · intro h
          have : (pend J l n H).length = 0 := by omega
          rw [key] at this
          exact ⟨H, by omega, by omega⟩
        · rintro ⟨h, hh, he⟩
          have hHh : h = H := by
            rcases Nat.lt_or_ge h H with hlt | hge
            · have := Nat.pow_lt_pow_right (a := 2) (by omega) hlt
              omega
            · omega
          subst hHh
          have : n % 2 ^ h = 0 := by omega
          rw [← key] at this
          omega
      | false =>
        simp only [Bool.false_eq_true, if_false, List.nil_append, Nat.zero_add]
        rw [ih]
        constructor
        · rintro ⟨h, hh, he⟩; exact ⟨h, by omega, he⟩
        · rintro ⟨h, hh, he⟩
          refine ⟨h, ?_, he⟩
          rcases Nat.lt_or_ge h H with hlt | hge
          · exact hlt
          · have := Nat.pow_le_pow_right (n := 2) (by omega) hge
            omega
  rw [key1, Nat.mod_eq_of_lt hn]
theorem bit_pow (h k : Nat) : bit (2 ^ h) k = decide (k = h) := by
  rw [bit_lo]
  rcases Nat.lt_trichotomy k h with hlt | rfl | hgt
  · have : 2 ^ h = 2 ^ (k + 1) * 2 ^ (h - (k + 1)) := by rw [← Nat.pow_add]; congr 1; omega
    rw [this, Nat.mul_mod_right]; simp; omega
  · rw [Nat.mod_eq_of_lt (by rw [Nat.pow_succ]; have := Nat.two_pow_pos k; omega), Nat.div_self (Nat.two_pow_pos k)]; simp
  · have := Nat.pow_lt_pow_right (a := 2) (by omega) hgt
    rw [Nat.mod_eq_of_lt (by rw [Nat.pow_succ]; omega), Nat.div_eq_of_lt this]; simp; omega
theorem pend_pow (l : List α) (h H : Nat) : pend J l (2 ^ h) H = if h < H then [node J l h 0] else [] := by
  induction H with
  | zero => simp [pend]
  | succ H ih =>
    rw [pend, ih, bit_pow]
    by_cases he : H = h
    · subst he
      simp [pnode, Nat.shiftRight_eq_div_pow]
      rw [Nat.div_self (Nat.two_pow_pos H)]
    · rw [decide_eq_false he]
      simp only [Bool.false_eq_true, if_false, List.nil_append]
      by_cases hlt : h < H
      · rw [if_pos hlt, if_pos (by omega)]
      · rw [if_neg hlt, if_neg (by omega)]
/-! Another leaf. -/
/-- All bits of n below k are set. -/
theorem carry (n k : Nat) (hk : ∀ j, j < k → bit n j = true) : (n + 1) >>> k = (n >>> k) + 1 := by
  induction k with
  | zero => rfl
  | succ k ih =>
    have h1 := ih (fun j hj => hk j (by omega))
    have h2 : (n >>> k) % 2 = 1 := of_decide_eq_true (hk k (by omega))
    rw [shift_succ, shift_succ, h1]; omega
theorem carry_up (n k h : Nat) (hk : ∀ j, j < k → bit n j = true) (h0 : bit n k = false) (hh : k < h) : (n + 1) >>> h = n >>> h := by
  have h2 : (n >>> k) % 2 = 0 := by
    have : ¬ (n >>> k) % 2 = 1 := of_decide_eq_false h0
    omega
  obtain ⟨d, rfl⟩ : ∃ d, h = k + 1 + d := ⟨h - (k + 1), by omega⟩
  rw [Nat.shiftRight_add, Nat.shiftRight_add n, shift_succ, shift_succ, carry n k hk]
  congr 1; omega
theorem carry_low (n k h : Nat) (hk : ∀ j, j < k → bit n j = true) (hh : h < k) : bit (n + 1) h = false := by
  have h2 : (n >>> h) % 2 = 1 := of_decide_eq_true (hk h hh)
  unfold bit
  rw [carry n h (fun j hj => hk j (by omega))]
  simp; omega
end
end Mk
end Go.Proofs.Ytnholkjgdpapbaa
