/- Chapter 06: check, levels, Root, path, Path. No condition beyond the lengths that are named. -/
import Derived.Test.YtnholkjgdpapbaaMkB
import Derived.Deep.CutRange
namespace Go.Proofs.Ytnholkjgdpapbaa
set_option linter.unusedVariables false
set_option linter.unusedSimpArgs false
set_option maxRecDepth 10000
open Go.RowKit
attribute [local go_sem ↓] Go.wp_at_zero Go.wp_at_succ

/-- The height of a tree with n leaves. -/
def p2 (n : Nat) : Option Nat := (List.range 11).find? (fun h => 2 ^ h == n)
theorem p2_some {n h : Nat} (hh : p2 n = some h) : n = 2 ^ h ∧ h ≤ 10 := by
  unfold p2 at hh
  have h1 := List.find?_some hh
  have h2 := List.mem_range.1 (List.mem_of_find?_eq_some hh)
  exact ⟨(beq_iff_eq.1 h1).symm, by omega⟩
theorem p2_pow {h : Nat} (hh : h ≤ 10) : p2 (2 ^ h) = some h := by
  have : ∀ h : Fin 11, p2 (2 ^ h.1) = some h.1 := by decide +kernel
  exact this ⟨h, by omega⟩
/-- What check answers. -/
def chkN (n : Nat) : Int := if n = 0 then 1 else if 1024 < n then 9 else if (p2 n).isNone then 2 else 0
theorem and_p2 : (List.range 1025).all (fun n => n == 0 || ((bits BinOp.and IntKind.i64 (n : Int) ((n : Int) - 1) != 0) == (p2 n).isNone)) = true := by decide +kernel
theorem and_p2' {n : Nat} (h0 : n ≠ 0) (h1 : n ≤ 1024) : (bits BinOp.and IntKind.i64 (n : Int) ((n : Int) - 1) != 0) = (p2 n).isNone := by
  have := List.all_eq_true.1 and_p2 n (List.mem_range.2 (by omega))
  simp only [Bool.or_eq_true, beq_iff_eq] at this
  rcases this with h | h
  · omega
  · exact h
theorem chk_ok {n : Nat} (h : chkN n = 0) : ∃ k, p2 n = some k ∧ n = 2 ^ k ∧ k ≤ 10 := by
  unfold chkN at h
  split at h
  · cases h
  · split at h
    · cases h
    · cases hp : p2 n with
      | none => simp [hp] at h
      | some k => exact ⟨k, rfl, p2_some hp⟩
theorem chk_pow {h : Nat} (hh : h ≤ 10) : chkN (2 ^ h) = 0 := by
  unfold chkN
  have h1 := Nat.two_pow_pos h
  have h2 : 2 ^ h ≤ 2 ^ 10 := Nat.pow_le_pow_right (by omega) hh
  rw [if_neg (by omega), if_neg (by omega), p2_pow hh]; rfl

theorem check_any (n : Nat) (A : Option Addr) (c : Nat) (w : World) :
    Calls Try.prog 40 #[.slice A n c] w fun e w' => e = .returned (.int .i64 (chkN n)) ∧ w = w' := by
  unfold chkN
  by_cases h0 : n = 0
  · subst h0
    go_enter Try.func40, Try.ntmps40
    go_wp2_with fail
    go_ret
    exact ⟨rfl, rfl⟩
  · rw [if_neg h0]
    by_cases h1 : 1024 < n
    · rw [if_pos h1]
      have z0 : ¬ (n : Int) = 0 := by omega
      have z1 : (1024 : Int) < (n : Int) := by omega
      go_enter Try.func40, Try.ntmps40
      go_wp2_with fail
      go_ret
      exact ⟨rfl, rfl⟩
    · rw [if_neg h1]
      have z0 : ¬ (n : Int) = 0 := by omega
      have z1 : ¬ (1024 : Int) < (n : Int) := by omega
      have hb := and_p2' h0 (by omega)
      cases hp : (p2 n).isNone with
      | true =>
        rw [hp] at hb
        go_enter Try.func40, Try.ntmps40
        go_wp2_with fail
        go_ret
        exact ⟨rfl, rfl⟩
      | false =>
        rw [hp] at hb
        go_enter Try.func40, Try.ntmps40
        go_wp2_with fail
        go_ret
        exact ⟨rfl, rfl⟩

theorem rds_none {α : Type} {n : Nat} {E : Enc α n} {w : World} {B m c : Nat} {l : List α} (h : E.Rds w B (.slice none m c) l) : l = [] := by
  cases l with
  | nil => rfl
  | cons a l => obtain ⟨b, off, hA, _⟩ := h.at_ (by simp); cases hA
theorem Enc.Own.empty {α : Type} {n : Nat} (E : Enc α n) (e : TypeId) (w : World) : E.Own e (w.alloc (.cells #[] e)) w.heap.size (some ⟨w.heap.size, 0, none⟩) 0 0 [] := ⟨Proofs.Ytnholkjgdpapbaa.own_empty w e n, rfl⟩

theorem clone_any (l : List Nd) (B : Nat) (A : Option Addr) (L c : Nat) (w : World) (hs : (eB 16).Rds w B (.slice A L c) l) (hl : L ≤ 100000) :
    Calls Try.prog 50 #[.slice A L c] w fun e w' => ∃ A c, e = .returned (.slice A L c) ∧ (eB 16).Own 27 w' w.heap.size A c L l ∧ Fr0 w w' := by
  obtain ⟨h1, h2⟩ := hs.cap
  have hlen := hs.len
  rcases A with _ | a
  · obtain rfl := rds_none hs
    obtain rfl : L = 0 := by simpa using hlen.symm
    clear hs hlen
    go_enter Try.func50, Try.ntmps50
    go_wp2_with fail
    go_ret
    exact ⟨_, _, rfl, Enc.Own.nil _ _ _ _, Fr.refl _ _⟩
  · clear hlen
    obtain ⟨A2, c2, w2, hrun, ho, hf, q1, q2⟩ := Enc.Own.app eapok___merkle_Node (by omega) (Enc.Own.empty (eB 16) 27 w) ((Fr.refl (fun _ => False) w).alloc _) rfl (hs.alloc (.cells #[] 27)) (by omega) (by unfold maxLen; omega)
    have H := Lib.hid (And.intro ho hf)
    rw [Nat.zero_add] at hrun
    clear hs ho hf
    go_enter Try.func50, Try.ntmps50
    go_wp2_with fail
    go_ret
    exact ⟨_, _, rfl, by simpa using H.out.1, H.out.2⟩


def jn (k : Nat) (a b : Nd) : Nd := joinY (k : Int) a b
theorem jn_succ (k : Nat) (a b : Nd) : jn (k + 1) a b = joinY ((k : Int) + 1) a b := by unfold jn; rw [Int.natCast_succ]
abbrev levY (l : List Nd) (k : Nat) : List Nd := Mk.lev jn l k
abbrev nodeY (l : List Nd) (n k : Nat) : Nd := Mk.node jn l n k
theorem lev_up (l : List Nd) (k m : Nat) (hm : 2 * m + 1 < (levY l k).length) (x0 x1 : Nd) (h0 : (levY l k)[2 * m]? = some x0) (h1 : (levY l k)[2 * m + 1]? = some x1) : (levY l (k + 1)).take (m + 1) = (levY l (k + 1)).take m ++ [joinY ((k : Int) + 1) x0 x1] := by
  have h := Mk.up_get jn (k + 1) (levY l k) m (by omega)
  have hlt := (List.getElem?_eq_some_iff.1 h).1
  have hv := (List.getElem?_eq_some_iff.1 h).2
  show (Mk.up jn (k + 1) (levY l k)).take (m + 1) = (Mk.up jn (k + 1) (levY l k)).take m ++ _
  rw [List.take_succ_eq_append_getElem hlt, hv, jn_succ]
  simp [List.getD, h0, h1]
theorem lev_all (l : List Nd) (k m : Nat) (hm : (levY l k).length ≤ 2 * m + 1) : (levY l (k + 1)).take m = levY l (k + 1) := by
  apply List.take_of_length_le
  show (Mk.up jn (k + 1) (levY l k)).length ≤ m
  rw [Mk.up_length]; omega
theorem lev_len (l : List Nd) {h : Nat} (hl : l.length = 2 ^ h) (k : Nat) (hk : k ≤ h) : (levY l k).length = 2 ^ (h - k) := by
  show (Mk.lev jn l k).length = _
  rw [Mk.lev_length, hl, Nat.pow_div hk (by omega)]
/-- The levels of a tree, as a slice of slices. -/
structure LevAt (w : World) (base : Nat) (A : Option Addr) (c : Nat) (l : List Nd) (n : Nat) (ls : List Sv) : Prop where
  own : eS.Own 41 w base A c n ls
  row : ∀ j (hj : j < n), ∃ s, ls[j]? = some s ∧ s.2.1 = (levY l j).length ∧ Sl w 27 16 (.slice s.1 s.2.1 s.2.2) (levY l j).length ((levY l j).flatMap (eB 16).f)
theorem LevAt.fr0 {w w' : World} {base : Nat} {A : Option Addr} {c n : Nat} {l : List Nd} {ls : List Sv} (h : LevAt w base A c l n ls) (hf : Fr0 w w') : LevAt w' base A c l n ls :=
  ⟨h.own.fr0 hf, fun j hj => by obtain ⟨s, h1, h2, h3⟩ := h.row j hj; exact ⟨s, h1, h2, h3.fr0 hf⟩⟩
theorem own_type {w : World} {base e size n : Nat} {x : Value} {xs : List Value} (h : w.ownsRow base e size x n xs) (k : Nat) (hk : x.ownBlock = some k) : ∃ cur, w.heap[k]? = some (.cells cur e (0, 0)) := by
  obtain ⟨_, ⟨rfl, _⟩ | ⟨g, cap, cur, rfl, _, hh, _⟩⟩ := h
  · cases hk
  · simp only [Value.ownBlock, Option.some.injEq] at hk
    subst hk; exact ⟨cur, hh⟩
theorem apok_lev : appOk Try.prog 89 41 1 24 = true := by kernel_rfl
/-- Another level. -/
theorem LevAt.snoc {w w0 : World} {base : Nat} {A : Option Addr} {c n : Nat} {l : List Nd} {ls : List Sv} (h : LevAt w base A c l n ls) (hf : Fr0 w0 w) (hbase : base = w0.heap.size) (hn : n ≤ 1000) (s : Sv) (hs : s.2.1 = (levY l n).length) (hr : Sl w 27 16 (.slice s.1 s.2.1 s.2.2) (levY l n).length ((levY l n).flatMap (eB 16).f)) :
    ∃ A2 c2 w2, (app #[89, 89] 89 #[.slice A n c, .slice (some ⟨w.heap.size, 0, none⟩) 1 1]).run Try.prog (w.alloc (.cells #[.slice s.1 s.2.1 s.2.2] 41)) = .ok (.slice A2 (n + 1) c2) w2 ∧ LevAt w2 base A2 c2 l (n + 1) (ls ++ [s]) ∧ Fr0 w0 w2 ∧ n + 1 ≤ c2 ∧ c2 ≤ maxLen := by
  subst hbase
  have hown := h.own.own
  have hlen := h.own.len
  have hty := own_type hown
  subst hlen
  obtain ⟨A2, c2, w2, h1, h2, h3, h4, h5, h6, h7⟩ := Enc.app1 (by omega) apok_lev w s hown (by omega) (by unfold maxLen; omega) hf.size
  have hk : ∀ (k : Nat) (cur : Array Value) (fz : Nat × Nat), (Value.slice A ls.length c).ownBlock = some k → w.heap[k]? ≠ some (Obj.cells cur 27 fz) := fun k cur fz hk he => by
    obtain ⟨cur', hh⟩ := hty k hk
    rw [hh] at he
    injection he with he
    injection he with _ he _
    exact absurd he (by decide)
  refine ⟨A2, c2, w2, h1, ⟨⟨by rw [List.length_append] at h2; exact h2, by simp⟩, fun j hj => ?_⟩, hf.then_ h3 (fun i hi hk => by have := h4 i hk; omega), h6, h7⟩
  by_cases hjn : j < ls.length
  · obtain ⟨s', q1, q2, q3⟩ := h.row j hjn
    exact ⟨s', by rw [List.getElem?_append_left hjn]; exact q1, q2, q3.fr h3 hk⟩
  · obtain rfl : j = ls.length := by omega
    exact ⟨s, by simp, hs, hr.fr h3 hk⟩
theorem LevAt.rds {w : World} {base : Nat} {A : Option Addr} {c n : Nat} {l : List Nd} {ls : List Sv} (h : LevAt w base A c l n ls) (j : Nat) (hj : j < n) : ∃ b off Ab cb, A = some ⟨b, off, none⟩ ∧ b < w.heap.size ∧ w.cell? ⟨b, off + j, none⟩ = some (.slice Ab (levY l j).length cb) ∧ (eB 16).Rds w w.heap.size (.slice Ab (levY l j).length cb) (levY l j) := by
  obtain ⟨s, q1, q2, q3⟩ := h.row j hj
  obtain ⟨b, off, hA, _, hb, hx⟩ := (h.own.rds (by omega)).at_ (by rw [h.own.len]; omega)
  have hl : j < ls.length := by rw [h.own.len]; exact hj
  have h1 := eS_cell (hx j hl)
  have h2 : ls[j] = s := by
    have := List.getElem?_eq_getElem hl
    rw [this] at q1; injection q1
  rw [h2, Nat.mul_one] at h1
  rw [q2] at h1 q3
  exact ⟨b, off, s.1, s.2.2, hA, hb, h1, Sl.rds (by omega) q3⟩

def TT41 : List (List Nat) := [[], [], [], [], [2, 3], [2, 3, 4], [], [], [7], [6, 7, 8], [6, 7, 8, 9], [1, 2, 3, 4, 5, 6, 7, 8, 9, 10], [1, 2, 3, 4, 5, 6, 7, 8, 9, 10, 11], [0, 1, 2, 3, 4, 5, 6, 7, 8, 9, 10, 11, 12], [0, 1, 2, 3, 4, 5, 6, 7, 8, 9, 10, 11, 12, 13]]

set_option maxHeartbeats 2000000 in
theorem levels_any (l : List Nd) (h : Nat) (hh : h ≤ 10) (hl : l.length = 2 ^ h) (B : Nat) (A : Option Addr) (L c : Nat) (w : World) (hs : (eB 16).Rds w B (.slice A L c) l) :
    Calls Try.prog 41 #[.slice A L c] w fun e w' => ∃ A2 c2 ls, e = .returned (.slice A2 (h + 1) c2) ∧ LevAt w' w.heap.size A2 c2 l (h + 1) ls ∧ Fr0 w w' := by
  have hL : L ≤ 1024 := by
    have := hs.len
    have : 2 ^ h ≤ 2 ^ 10 := Nat.pow_le_pow_right (by omega) hh
    omega
  have HH := Lib.hid hh
  have HL := Lib.hid hl
  have HLN := Lib.hid (lev_len l hl)
  have hlen := hs.len
  have HLen := Lib.hid hlen
  go_enter Try.func41, Try.ntmps41
  go_wp2_with fail
  refine (clone_any l B A L c _ hs (by omega)).mono ?_
  rintro e w2 ⟨A0, c0, rfl, ho, hf⟩
  have h0 : LevAt (w2.alloc (.cells #[.slice A0 L c0] 41)) w2.heap.size (some ⟨w2.heap.size, 0, none⟩) 1 l 1 [(A0, L, c0)] := by
    refine ⟨⟨⟨by simp [eS], .inr ⟨w2.heap.size, 1, #[.slice A0 L c0], rfl, Nat.le_refl _, alloc_heap_new w2 _, Nat.le_refl _, by unfold maxLen; omega, by simp, by simp [eS]⟩⟩, rfl⟩, fun j hj => ?_⟩
    obtain rfl : j = 0 := by omega
    refine ⟨_, rfl, hlen.symm, ?_⟩
    show Sl _ _ _ (.slice A0 L c0) l.length (l.flatMap (eB 16).f)
    rw [hlen]
    exact (Sl.of_own ho.own).alloc _
  have h0' : LevAt (w2.alloc (.cells #[.slice A0 L c0] 41)) w.heap.size (some ⟨w2.heap.size, 0, none⟩) 1 l 1 [(A0, L, c0)] := ⟨h0.own.mono hf.size, h0.row⟩
  have H0 := Lib.hid (And.intro h0' (hf.alloc (.cells #[.slice A0 L c0] 41)))
  clear ho hf hs hh hl hlen h0 h0'
  go_wp2_with fail
  go_loopw [3, 4, 5, 6, 7] (fun v lv _ _ _ wr => ∃ k A1 c1 ls, v = .slice A1 (k + 1) c1 ∧ lv = .int .i64 ((k : Nat) + 1 : Int) ∧ k ≤ 10 ∧ k + 1 ≤ c1 ∧ c1 ≤ maxLen ∧ RowKit.Hid (k ≤ h) ∧ RowKit.Hid (LevAt wr w.heap.size A1 c1 l (k + 1) ls) ∧ RowKit.Hid (Fr0 w wr)) (fun _ lv _ _ _ _ => 20 - (intOf lv).toNat)
  case atStart => exact ⟨0, _, 1, [(A0, L, c0)], rfl, rfl, by omega, by omega, by unfold maxLen; omega, Lib.hid (Nat.zero_le _), Lib.hid H0.out.1, Lib.hid H0.out.2⟩
  case round =>
    obtain ⟨k, A1, c1, ls, rfl, rfl, hk10, hc1, hc2, HK, HLV, HF1⟩ := hrel
    obtain ⟨wo, rfl⟩ : ∃ wo, wo = wr := ⟨_, rfl⟩
    obtain ⟨b, off, Ab, cb, rfl, hb, hcell, hrd⟩ := HLV.out.rds k (by omega)
    obtain ⟨hq1, hq2⟩ := hrd.cap
    have hN := HLN.out k HK.out
    have HN := Lib.hid hN
    have hN10 : (levY l k).length ≤ 1024 := by
      have : 2 ^ (h - k) ≤ 2 ^ 10 := Nat.pow_le_pow_right (by omega) (by have := HH.out; omega)
      omega
    obtain ⟨N, HNN⟩ := nm (levY l k).length
    rw [← HNN.out] at hcell hrd hq1 hN10
    have HRD := Lib.hid hrd
    clear hrd hN
    unfold maxLen at hc2 hq2
    by_cases h1 : 1 < N
    · have z1 : (1 : Int) < (N : Int) := by omega
      obtain ⟨bb, ob, rfl, _, hbs, hx⟩ := HRD.out.atq (by rw [HRD.out.len]; omega)
      have HX := Lib.hid hx
      clear hx
      go_wp2_with fail
      go_loopw [6, 7] (fun v iv ws => ∃ m i A2 c2, v = .slice A2 m c2 ∧ iv = .int .i64 (i : Nat) ∧ m ≤ c2 ∧ c2 ≤ maxLen ∧ RowKit.Hid (i = 2 * m) ∧ i ≤ N ∧ RowKit.Hid ((eB 16).Own 27 ws wo.heap.size A2 c2 m ((levY l (k + 1)).take m)) ∧ RowKit.Hid (Fr0 wo ws)) (fun _ iv _ => 2000 - (intOf iv).toNat)
      case atStart => exact ⟨0, 0, none, 0, rfl, rfl, by omega, by unfold maxLen; omega, Lib.hid rfl, by omega, Lib.hid (by simpa using Enc.Own.nil (eB 16) _ wo wo.heap.size), Lib.hid (Fr.refl _ _)⟩
      case round =>
        obtain ⟨m, i, A2, c2, rfl, rfl, hm1, hm2, HI, hi, HO2, HF2⟩ := hrel
        by_cases h2 : i + 1 < N
        · obtain ⟨x0, e0⟩ : ∃ x, (levY l k)[i]? = some x := ⟨_, List.getElem?_eq_getElem (by have := HNN.out; omega)⟩
          obtain ⟨x1, e1⟩ : ∃ x, (levY l k)[i + 1]? = some x := ⟨_, List.getElem?_eq_getElem (by have := HNN.out; omega)⟩
          have HX0 := Lib.hid (((eB 16).at_fr HF2.out _ _ hbs).trans (HX.out i x0 e0))
          have HX1 := Lib.hid (((eB 16).at_fr HF2.out _ _ hbs).trans (HX.out (i + 1) x1 e1))
          have HE := Lib.hid (lev_up l k m (by have := HNN.out; have := HI.out; omega) x0 x1 (by rw [← HI.out]; exact e0) (by rw [← HI.out]; exact e1))
          have hm5 : m ≤ 1024 := by have := HI.out; omega
          have hbs2 : bb < wr.heap.size := Nat.lt_of_lt_of_le hbs HF2.out.size
          have hle : wr.heap.size ≤ wr.drew.heap.size := Nat.le_refl _
          have z2 : (i : Int) + 1 < (N : Int) := by omega
          have z3 : (i : Int) < (N : Int) := by omega
          have z4 : (0 : Int) ≤ (i : Int) := by omega
          clear e0 e1
          go_wp2_with fail
          refine reg_start (by kernel_rfl) ?_
          refine reg_uno (D := [some 32, some 33, some 34, some 35, some 36, some 37, some 38, some 39, some 40, some 41, some 42, some 43, some 44, some 45, some 6]) (J := [0, 1, 2, 3, 4, 5, 6, 7, 8, 9, 10, 11, 12]) 13 [] [PV (.slice A2 m c2), PV (.int .i64 ((k : Int) + 1)), PV (.slice (some ⟨bb, ob, none⟩) N cb), PV (.int .i64 (i : Int)), PV (.pointer (some ⟨bb, ob + i * 16, none⟩)), PV ((eB 16).v x0), PV (.slice (some ⟨bb, ob, none⟩) N cb), PV (.int .i64 (i : Int)), PV (.int .i64 ((i : Int) + 1)), PV (.pointer (some ⟨bb, ob + (i + 1) * 16, none⟩)), PV ((eB 16).v x1), PV ((eB 16).v (joinY ((k : Int) + 1) x0 x1)), PS (wr.heap.size) 27 (((eB 16).f (joinY ((k : Int) + 1) x0 x1)).toArray) 1] TT41 (by kernel_rfl) (by kernel_rfl) (by kernel_rfl) rfl rfl rfl
            (stab_cons (PV.stab _) (stab_cons (PV.stab _) (stab_cons (PV.stab _) (stab_cons (PV.stab _) (stab_cons (PV.stab _) (stab_cons (PV.stab _) (stab_cons (PV.stab _) (stab_cons (PV.stab _) (stab_cons (PV.stab _) (stab_cons (PV.stab _) (stab_cons (PV.stab _) (stab_cons (PV.stab _) (stab_cons (PS.stab _ _ _ _) stab_nil)))))))))))))
            (fun v => usteps_cons ?_ (usteps_cons ?_ (usteps_cons ?_ (usteps_cons ?_ (usteps_cons ?_ (usteps_cons ?_ (usteps_cons ?_ (usteps_cons ?_ (usteps_cons ?_ (usteps_cons ?_ (usteps_cons ?_ (usteps_cons ?_ (usteps_cons ?_ (usteps_nil)))))))))))))) (fun v wx hx hP hA => ?_)
          · refine ustep_mk (D := [some 32, some 33, some 34, some 35, some 36, some 37, some 38, some 39, some 40, some 41, some 42, some 43, some 44, some 45, some 6]) (Ti := []) rfl rfl rfl rfl (fun wx hx hP => ?_)   -- 0: move (tmp 6)
            clear hP
            simp only [putD, List.getD_cons_zero, List.getD_cons_succ]
            go_wp2_with fail
            exact Q1.mk rfl _ rfl ⟨Fr.refl _ _, rfl, frok_no rfl⟩
          · refine ustep_mk (D := [some 32, some 33, some 34, some 35, some 36, some 37, some 38, some 39, some 40, some 41, some 42, some 43, some 44, some 45, some 6]) (Ti := []) rfl rfl rfl rfl (fun wx hx hP => ?_)   -- 1: move (tmp 4)
            clear hP
            simp only [putD, List.getD_cons_zero, List.getD_cons_succ]
            go_wp2_with fail
            exact Q1.mk rfl _ rfl ⟨Fr.refl _ _, rfl, frok_no rfl⟩
          · refine ustep_mk (D := [some 32, some 33, some 34, some 35, some 36, some 37, some 38, some 39, some 40, some 41, some 42, some 43, some 44, some 45, some 6]) (Ti := []) rfl rfl rfl rfl (fun wx hx hP => ?_)   -- 2: move (tmp 5)
            clear hP
            simp only [putD, List.getD_cons_zero, List.getD_cons_succ]
            go_wp2_with fail
            exact Q1.mk rfl _ rfl ⟨Fr.refl _ _, rfl, frok_no rfl⟩
          · refine ustep_mk (D := [some 32, some 33, some 34, some 35, some 36, some 37, some 38, some 39, some 40, some 41, some 42, some 43, some 44, some 45, some 6]) (Ti := []) rfl rfl rfl rfl (fun wx hx hP => ?_)   -- 3: move (tmp 7)
            clear hP
            simp only [putD, List.getD_cons_zero, List.getD_cons_succ]
            go_wp2_with fail
            exact Q1.mk rfl _ rfl ⟨Fr.refl _ _, rfl, frok_no rfl⟩
          · refine ustep_mk (D := [some 32, some 33, some 34, some 35, some 36, some 37, some 38, some 39, some 40, some 41, some 42, some 43, some 44, some 45, some 6]) (Ti := [2, 3]) rfl rfl rfl rfl (fun wx hx hP => ?_)   -- 4: indexAddr 41 (tmp 34) (tmp 35)
            have h2 : v 2 = .slice (some ⟨bb, ob, none⟩) N cb := hP.1
            have h3 : v 3 = .int .i64 (i : Int) := hP.2.1
            clear hP
            simp only [putD, List.getD_cons_zero, List.getD_cons_succ]
            go_wp2_with fail
            exact Q1.mk rfl _ rfl ⟨Fr.refl _ _, rfl, frok_no rfl⟩
          · refine ustep_mk (D := [some 32, some 33, some 34, some 35, some 36, some 37, some 38, some 39, some 40, some 41, some 42, some 43, some 44, some 45, some 6]) (Ti := [2, 3, 4]) rfl rfl rfl rfl (fun wx hx hP => ?_)   -- 5: load 27 (tmp 36)
            have h2 : v 2 = .slice (some ⟨bb, ob, none⟩) N cb := hP.1
            have h3 : v 3 = .int .i64 (i : Int) := hP.2.1
            have h4 : v 4 = .pointer (some ⟨bb, ob + i * 16, none⟩) := hP.2.2.1
            have hld := ((eB 16).at_fr hx _ _ hbs2).trans HX0.out
            clear hP
            simp only [putD, List.getD_cons_zero, List.getD_cons_succ]
            go_wp2_with fail
            exact Q1.mk rfl _ rfl ⟨Fr.refl _ _, rfl, frok_no rfl⟩
          · refine ustep_mk (D := [some 32, some 33, some 34, some 35, some 36, some 37, some 38, some 39, some 40, some 41, some 42, some 43, some 44, some 45, some 6]) (Ti := []) rfl rfl rfl rfl (fun wx hx hP => ?_)   -- 6: move (tmp 5)
            clear hP
            simp only [putD, List.getD_cons_zero, List.getD_cons_succ]
            go_wp2_with fail
            exact Q1.mk rfl _ rfl ⟨Fr.refl _ _, rfl, frok_no rfl⟩
          · refine ustep_mk (D := [some 32, some 33, some 34, some 35, some 36, some 37, some 38, some 39, some 40, some 41, some 42, some 43, some 44, some 45, some 6]) (Ti := []) rfl rfl rfl rfl (fun wx hx hP => ?_)   -- 7: move (tmp 7)
            clear hP
            simp only [putD, List.getD_cons_zero, List.getD_cons_succ]
            go_wp2_with fail
            exact Q1.mk rfl _ rfl ⟨Fr.refl _ _, rfl, frok_no rfl⟩
          · refine ustep_mk (D := [some 32, some 33, some 34, some 35, some 36, some 37, some 38, some 39, some 40, some 41, some 42, some 43, some 44, some 45, some 6]) (Ti := [7]) rfl rfl rfl rfl (fun wx hx hP => ?_)   -- 8: binOp Binadd 3 (tmp 39) (const (Value.int IntKind.
            have h7 : v 7 = .int .i64 (i : Int) := hP.1
            clear hP
            simp only [putD, List.getD_cons_zero, List.getD_cons_succ]
            go_wp2_with fail
            exact Q1.mk rfl _ rfl ⟨Fr.refl _ _, rfl, frok_no rfl⟩
          · refine ustep_mk (D := [some 32, some 33, some 34, some 35, some 36, some 37, some 38, some 39, some 40, some 41, some 42, some 43, some 44, some 45, some 6]) (Ti := [6, 7, 8]) rfl rfl rfl rfl (fun wx hx hP => ?_)   -- 9: indexAddr 41 (tmp 38) (tmp 40)
            have h6 : v 6 = .slice (some ⟨bb, ob, none⟩) N cb := hP.1
            have h7 : v 7 = .int .i64 (i : Int) := hP.2.1
            have h8 : v 8 = .int .i64 ((i : Int) + 1) := hP.2.2.1
            clear hP
            simp only [putD, List.getD_cons_zero, List.getD_cons_succ]
            go_wp2_with fail
            exact Q1.mk rfl _ rfl ⟨Fr.refl _ _, rfl, frok_no rfl⟩
          · refine ustep_mk (D := [some 32, some 33, some 34, some 35, some 36, some 37, some 38, some 39, some 40, some 41, some 42, some 43, some 44, some 45, some 6]) (Ti := [6, 7, 8, 9]) rfl rfl rfl rfl (fun wx hx hP => ?_)   -- 10: load 27 (tmp 41)
            have h6 : v 6 = .slice (some ⟨bb, ob, none⟩) N cb := hP.1
            have h7 : v 7 = .int .i64 (i : Int) := hP.2.1
            have h8 : v 8 = .int .i64 ((i : Int) + 1) := hP.2.2.1
            have h9 : v 9 = .pointer (some ⟨bb, ob + (i + 1) * 16, none⟩) := hP.2.2.2.1
            have hld := ((eB 16).at_fr hx _ _ hbs2).trans HX1.out
            clear hP
            simp only [putD, List.getD_cons_zero, List.getD_cons_succ]
            go_wp2_with fail
            exact Q1.mk rfl _ rfl ⟨Fr.refl _ _, rfl, frok_no rfl⟩
          · refine ustep_mk (D := [some 32, some 33, some 34, some 35, some 36, some 37, some 38, some 39, some 40, some 41, some 42, some 43, some 44, some 45, some 6]) (Ti := [1, 2, 3, 4, 5, 6, 7, 8, 9, 10]) rfl rfl rfl rfl (fun wx hx hP => ?_)   -- 11: call { callee := Callee.value (func 14), args := #
            have h1 : v 1 = .int .i64 ((k : Int) + 1) := hP.1
            have h2 : v 2 = .slice (some ⟨bb, ob, none⟩) N cb := hP.2.1
            have h3 : v 3 = .int .i64 (i : Int) := hP.2.2.1
            have h4 : v 4 = .pointer (some ⟨bb, ob + i * 16, none⟩) := hP.2.2.2.1
            have h5 : v 5 = (eB 16).v x0 := hP.2.2.2.2.1
            have h6 : v 6 = .slice (some ⟨bb, ob, none⟩) N cb := hP.2.2.2.2.2.1
            have h7 : v 7 = .int .i64 (i : Int) := hP.2.2.2.2.2.2.1
            have h8 : v 8 = .int .i64 ((i : Int) + 1) := hP.2.2.2.2.2.2.2.1
            have h9 : v 9 = .pointer (some ⟨bb, ob + (i + 1) * 16, none⟩) := hP.2.2.2.2.2.2.2.2.1
            have h10 : v 10 = (eB 16).v x1 := hP.2.2.2.2.2.2.2.2.2.1
            clear hP
            simp only [putD, List.getD_cons_zero, List.getD_cons_succ]
            go_wp2_with fail
            refine (join_any ((k : Int) + 1) x0 x1 _).mono ?_
            rintro e wy ⟨rfl, hfy⟩
            go_wp2_with fail
            exact Q1.mk rfl _ rfl ⟨hfy, rfl, frok_no rfl⟩
          · refine ustep_mk (D := [some 32, some 33, some 34, some 35, some 36, some 37, some 38, some 39, some 40, some 41, some 42, some 43, some 44, some 45, some 6]) (Ti := [1, 2, 3, 4, 5, 6, 7, 8, 9, 10, 11]) rfl rfl rfl rfl (fun wx hx hP => ?_)   -- 12: buildSlice 41 1 #[(0, tmp 43)]
            have h1 : v 1 = .int .i64 ((k : Int) + 1) := hP.1
            have h2 : v 2 = .slice (some ⟨bb, ob, none⟩) N cb := hP.2.1
            have h3 : v 3 = .int .i64 (i : Int) := hP.2.2.1
            have h4 : v 4 = .pointer (some ⟨bb, ob + i * 16, none⟩) := hP.2.2.2.1
            have h5 : v 5 = (eB 16).v x0 := hP.2.2.2.2.1
            have h6 : v 6 = .slice (some ⟨bb, ob, none⟩) N cb := hP.2.2.2.2.2.1
            have h7 : v 7 = .int .i64 (i : Int) := hP.2.2.2.2.2.2.1
            have h8 : v 8 = .int .i64 ((i : Int) + 1) := hP.2.2.2.2.2.2.2.1
            have h9 : v 9 = .pointer (some ⟨bb, ob + (i + 1) * 16, none⟩) := hP.2.2.2.2.2.2.2.2.1
            have h10 : v 10 = (eB 16).v x1 := hP.2.2.2.2.2.2.2.2.2.1
            have h11 : v 11 = (eB 16).v (joinY ((k : Int) + 1) x0 x1) := hP.2.2.2.2.2.2.2.2.2.2.1
            clear hP
            simp only [putD, List.getD_cons_zero, List.getD_cons_succ]
            go_wp2_with fail
            exact Q1.mk rfl _ rfl ⟨(Fr.refl _ _).alloc _, ps_new (Nat.le_trans hle hx.size), frok_no rfl⟩
          have h0 : v 0 = .slice A2 m c2 := hP.1
          have h1 : v 1 = .int .i64 ((k : Int) + 1) := hP.2.1
          have h2 : v 2 = .slice (some ⟨bb, ob, none⟩) N cb := hP.2.2.1
          have h3 : v 3 = .int .i64 (i : Int) := hP.2.2.2.1
          have h4 : v 4 = .pointer (some ⟨bb, ob + i * 16, none⟩) := hP.2.2.2.2.1
          have h5 : v 5 = (eB 16).v x0 := hP.2.2.2.2.2.1
          have h6 : v 6 = .slice (some ⟨bb, ob, none⟩) N cb := hP.2.2.2.2.2.2.1
          have h7 : v 7 = .int .i64 (i : Int) := hP.2.2.2.2.2.2.2.1
          have h8 : v 8 = .int .i64 ((i : Int) + 1) := hP.2.2.2.2.2.2.2.2.1
          have h9 : v 9 = .pointer (some ⟨bb, ob + (i + 1) * 16, none⟩) := hP.2.2.2.2.2.2.2.2.2.1
          have h10 : v 10 = (eB 16).v x1 := hP.2.2.2.2.2.2.2.2.2.2.1
          have h11 : v 11 = (eB 16).v (joinY ((k : Int) + 1) x0 x1) := hP.2.2.2.2.2.2.2.2.2.2.2.1
          obtain ⟨g12, h12, hg12, hb12⟩ : PS (wr.heap.size) 27 (((eB 16).f (joinY ((k : Int) + 1) x0 x1)).toArray) 1 (v 12) wx := hP.2.2.2.2.2.2.2.2.2.2.2.2.1
          have hfx : Fr0 wr wx := (Fr.drew (Fr.refl _ _)).trans hx
          obtain ⟨A3, c3, w3, hrun, ho3, hf3, q1, q2⟩ := Enc.Own.app eapok___merkle_Node (by omega) (HO2.out.fr0 hfx) (HF2.out.trans hfx) rfl (Enc.Rds.of_blk1 hb12) (by omega) (by unfold maxLen; omega)
          have HO3 := Lib.hid ho3
          have HF3 := Lib.hid hf3
          clear hx hA hfx hb12 hg12 ho3 hf3
          clear hP
          simp only [putD, List.getD_cons_zero, List.getD_cons_succ]
          refine reg_seq' 51 2 TT41 (by kernel_rfl) (by kernel_rfl) ?_
          simp only [List.drop_succ_cons, List.drop_zero, List.take_succ_cons, List.take_zero]
          go_wp2_with fail
          refine QR.mk ?_
          refine reg_end (by decide) ?_
          go_wp2_with fail
          go_roundw
          case rel => exact ⟨m + 1, i + 2, A3, c3, rfl, by go_num, q1, q2, Lib.hid (by have := HI.out; omega), by omega, Lib.hid (by rw [HE.out]; exact HO3.out), HF3⟩
          case measure => simp [intOf]; omega
        · have z2 : ¬ (i : Int) + 1 < (N : Int) := by omega
          have hall := lev_all l k m (by have := HNN.out; have := HI.out; omega)
          have hol := HO2.out
          rw [hall] at hol
          have hlm := hol.len
          obtain ⟨A3, c3, w3, hrun, hlv, hf3, q1, q2⟩ := (HLV.out.fr0 HF2.out).snoc (HF1.out.trans HF2.out) rfl (by omega) (A2, m, c2) hlm.symm (by
            have := Sl.of_own hol.own
            rw [← hlm] at this ⊢
            exact this)
          have HLV3 := Lib.hid hlv
          have HF3 := Lib.hid hf3
          have hk2 : k + 1 ≤ h := by
            have h1' := HN.out
            have h2' := HK.out
            have h3' := HNN.out
            rcases Nat.lt_or_ge k h with h4 | h4
            · omega
            · obtain rfl : k = h := by omega
              simp at h1'; omega
          have HK2 := Lib.hid hk2
          have hk3 : k + 1 ≤ 10 := by have := HH.out; omega
          clear hall hol hlm hlv hf3 hk2
          go_wp2_with fail
          go_roundw
          case rel => exact ⟨k + 1, A3, c3, ls ++ [(A2, m, c2)], rfl, by go_num, hk3, q1, q2, HK2, HLV3, HF3⟩
          case measure => simp [intOf]; omega
    · have z1 : ¬ (1 : Int) < (N : Int) := by omega
      have hkh : k = h := by
        have h1' := HN.out
        have h2' := HK.out
        have h3' := HNN.out
        rcases Nat.lt_or_ge k h with h4 | h4
        · exfalso
          have : 2 ^ 1 ≤ 2 ^ (h - k) := Nat.pow_le_pow_right (by omega) (by omega)
          omega
        · omega
      subst hkh
      go_wp2_with fail
      go_ret
      exact ⟨_, _, rfl, ⟨ls, HLV.out⟩, HF1.out⟩
end Go.Proofs.Ytnholkjgdpapbaa
