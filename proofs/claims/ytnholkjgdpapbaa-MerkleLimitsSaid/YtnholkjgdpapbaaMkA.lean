/- Chapter 06: hash, half, Concat, Leaf, Join, of the package and of the reference. No condition beyond the lengths that are named. -/
import Derived.Test.YtnholkjgdpapbaaMkV
import Derived.OwnWalk
import Derived.StillTailTactics
import Derived.Lib.AppendZerosOnto
namespace Go.Proofs.Ytnholkjgdpapbaa
set_option linter.unusedVariables false
set_option linter.unusedSimpArgs false
set_option maxRecDepth 10000
open Go.RowKit
attribute [local go_sem ↓] Go.wp_at_zero Go.wp_at_succ

section
variable {P : Program} {w : World} {α : Type} {n : Nat} (E : Enc α n)
theorem bodyPost_E {fn : Func} {p : Tmp} {T : TypeId} {d : TypeDesc} (h : fn.results = #[.cell p T]) (hu : P.underlying T = some d) (hd : d.isRow = true) (hi : (P.info? T).map (·.size) = some n)
    {R : Ending → World → Prop} {a : Act} {b o : Nat} {x : α} (ht : a.tmps.getD p undef = .pointer (some ⟨b, o, none⟩)) (hl : E.at_ w b o = some x) (hd0 : a.defers = []) (hR : R (.returned (E.v x)) w) : bodyPost P fn R .ret a w :=
  bodyPost_agg h hu hd hi ht (E.ldA_of hl) hd0 hR
theorem bodyPost_E2 {fn : Func} {p u : Tmp} {T : TypeId} {d : TypeDesc} (h : fn.results = #[.cell p T, .tmp u]) (hu : P.underlying T = some d) (hd : d.isRow = true) (hi : (P.info? T).map (·.size) = some n)
    {R : Ending → World → Prop} {a : Act} {b o : Nat} {x : α} (ht : a.tmps.getD p undef = .pointer (some ⟨b, o, none⟩)) (hl : E.at_ w b o = some x) (hd0 : a.defers = []) (hR : R (.returned (.tuple #[E.v x, a.tmps.getD u undef])) w) : bodyPost P fn R .ret a w :=
  bodyPost_agg2 h hu hd hi ht (E.ldA_of hl) hd0 hR
/-- A result's cell is written, and the function returns. -/
theorem fin_E {fn : Func} {p : Tmp} {T : TypeId} {d : TypeDesc} (h : fn.results = #[.cell p T]) (hu : P.underlying T = some d) (hd : d.isRow = true) (hi : (P.info? T).map (·.size) = some n)
    {R : Ending → World → Prop} {a : Act} {b o : Nat} {x : α} (ht : a.tmps.getD p undef = .pointer (some ⟨b, o, none⟩)) (hd0 : a.defers = []) (ho : okA w b o n = true) (hR : R (.returned (E.v x)) (E.put w b o x)) : bodyPost P fn R .ret a (E.put w b o x) :=
  bodyPost_E E h hu hd hi ht (E.at_put ho) hd0 hR
theorem fin_E2 {fn : Func} {p u : Tmp} {T : TypeId} {d : TypeDesc} (h : fn.results = #[.cell p T, .tmp u]) (hu : P.underlying T = some d) (hd : d.isRow = true) (hi : (P.info? T).map (·.size) = some n)
    {R : Ending → World → Prop} {a : Act} {b o : Nat} {x : α} (ht : a.tmps.getD p undef = .pointer (some ⟨b, o, none⟩)) (hd0 : a.defers = []) (ho : okA w b o n = true) (hR : R (.returned (.tuple #[E.v x, a.tmps.getD u undef])) (E.put w b o x)) : bodyPost P fn R .ret a (E.put w b o x) :=
  bodyPost_E2 E h hu hd hi ht (E.at_put ho) hd0 hR
theorem Fr.fin {S : Nat → Prop} {a w : World} (h : Fr S a w) {b : Nat} (hb : a.heap.size ≤ b) (o : Nat) (x : α) : Fr S a (E.put w b o x) := h.putE E (fun h => by omega) o x
end

theorem shalf_E (l : List UInt8) (B : Nat) (v : Value) (w : World) (hs : Rd w B v l) (hl : l.length ≤ 1000000000) :
    Calls Try.prog 47 #[v] w fun e w' => e = .returned ((eB 16).v (halfY l)) ∧ Fr0 w w' := shalf_any l B v w hs hl
set_option maxHeartbeats 1000000 in
theorem mhash_any (l : List UInt8) (B : Nat) (v : Value) (w : World) (hs : Rd w B v l) (hl : l.length ≤ 1000000000) :
    Calls Try.prog 34 #[v] w fun e w' => e = .returned ((eB 16).v (halfY l)) ∧ Fr0 w w' := by
  obtain ⟨A, c, rfl, h1, h2⟩ := hs.form
  have HS := Lib.hid hs
  clear hs
  go_enter Try.func34, Try.ntmps34
  go_wp2_with fail
  refine (shalf_E l B _ _ (HS.out.newE _ _ _) hl).mono ?_
  rintro e w3 ⟨rfl, hf⟩
  have ha := (eB 16).at_fr hf
  have ho := okA_fr hf
  go_wp2_with fail
  exact fin_E (eB 16) rfl Try.underlying27 rfl einfo_bulletin_merkle_Node (by rfl) rfl (by simp [ho]) ⟨rfl, (((Fr.refl (fun _ => False) w).newE _ _ _).trans hf).fin _ (Nat.le_refl _) _ _⟩

theorem rsum_E (l : List UInt8) (B : Nat) (v : Value) (w : World) (hs : Rd w B v l) (hl : l.length ≤ 1000000000) :
    Calls Try.prog 48 #[v] w fun e w' => e = .returned ((eB 32).v (sumY l)) ∧ Fr0 w w' := rsum_any l B v w hs hl
/-- The first k bytes of d, then zeros. -/
def cpre (d : List UInt8) (n k : Nat) : List UInt8 := (List.range n).map (fun j => if j < k then d.getD j 0 else 0)
@[simp] theorem cpre_length (d : List UInt8) (n k : Nat) : (cpre d n k).length = n := by simp [cpre]
theorem cpre_set {d : List UInt8} {n k : Nat} (hk : k < n) (x : UInt8) (hx : d[k]? = some x) : (bs (cpre d n k)).set k (u8 x) = bs (cpre d n (k + 1)) := by
  apply List.ext_getElem
  · simp
  · intro j h1 h2
    simp only [List.getElem_set, bs, cpre, List.getElem_map, List.getElem_range]
    by_cases hj : k = j
    · subst hj; rw [if_pos rfl, if_pos (by omega)]; simp [List.getD, hx]
    · rw [if_neg hj]
      by_cases h3 : j < k
      · rw [if_pos h3, if_pos (by omega)]
      · rw [if_neg h3, if_neg (by omega)]
theorem cpre_zero (d : List UInt8) (n : Nat) : cpre d n 0 = List.replicate n 0 := by
  apply List.ext_getElem
  · simp
  · intro j h1 h2; simp [cpre]
theorem cpre_all {d : List UInt8} {n : Nat} (hn : n ≤ d.length) : cpre d n n = d.take n := by
  apply List.ext_getElem
  · simp; omega
  · intro j h1 h2
    have : j < n := by simpa using h1
    simp [cpre, List.getD, this, show j < d.length by omega]

set_option maxHeartbeats 1000000 in
theorem rhalf6_any (l : List UInt8) (B : Nat) (v : Value) (w : World) (hs : Rd w B v l) (hl : l.length ≤ 1000000000) :
    Calls Try.prog 35 #[v] w fun e w' => e = .returned ((eB 16).v (halfY l)) ∧ Fr0 w w' := by
  obtain ⟨A, c, rfl, h1, h2⟩ := hs.form
  have HS := Lib.hid hs
  clear hs
  go_enter Try.func35, Try.ntmps35
  go_wp2_with fail
  refine (rsum_E l B _ _ (HS.out.newE _ _ _) hl).mono ?_
  rintro e w3 ⟨rfl, hf⟩
  go_wp2_with fail
  obtain ⟨wB, HB⟩ := nm ((eB 16).new 24 ((eB 32).new 98 w3 (sumY l)) z16N)
  have b4 : Blk wB (w3.heap.size + 1) 24 (bs (cpre (sumB l) 16 0)).toArray := by
    rw [HB.out, cpre_zero]
    have := Blk.new ((eB 32).new 98 w3 (sumY l)) 24 (bs z16N.1).toArray
    rw [Enc.new_size] at this
    exact this
  have b3 : Blk wB w3.heap.size 98 (bs (sumB l)).toArray := by
    rw [HB.out]; exact (Blk.new w3 98 (bs (sumB l)).toArray).alloc _
  have o2 : okA wB w.heap.size 0 16 = true := by
    have ho := okA_fr hf
    have := hf.size
    rw [HB.out]; simp at this; rw [(eB 16).okA_newOld _ _ _ (by simp; omega), (eB 32).okA_newOld _ _ _ (by omega), ho _ _ _ (by simp)]; simp
  have hF : Fr0 w wB := by rw [HB.out]; exact ((((Fr.refl (fun _ => False) w).newE _ _ _).trans hf).newE _ _ _).newE _ _ _
  have hsz : w.heap.size < w3.heap.size := by have := hf.size; simp at this; omega
  have H := Lib.hid (And.intro b3 (And.intro o2 hF))
  have HZ := Lib.hid b4
  rw [← HB.out]
  clear b4 b3 o2 hF hf HB
  go_loopw [5] (fun i wr => ∃ k : Nat, k ≤ 16 ∧ i = .int .i64 k ∧ Fr1 (w3.heap.size + 1) wB wr ∧ Blk wr (w3.heap.size + 1) 24 (bs (cpre (sumB l) 16 k)).toArray) (fun i _ => 16 - (intOf i).toNat)
  case atStart => exact ⟨0, by omega, rfl, Fr.refl _ _, HZ.out⟩
  case round =>
    obtain ⟨k, hk, rfl, hf, hb⟩ := hrel
    have HF := Lib.hid hf
    have HK := Lib.hid hb
    by_cases hlt : k < 16
    · obtain ⟨x, hx⟩ : ∃ x, (sumB l)[k]? = some x := ⟨_, List.getElem?_eq_getElem (by rw [sumB_length]; omega)⟩
      have c3 : wr.cell? ⟨w3.heap.size, k, none⟩ = some (Proofs.Ytnholkjgdpapbaa.u8 x) := by
        rw [(H.out.1.fr hf (by omega)).cell]; simp [bs, hx]
      obtain ⟨y, c4⟩ : ∃ y, wr.cell? ⟨w3.heap.size + 1, k, none⟩ = some y := ⟨_, (hb.cell k).trans (Array.getElem?_eq_getElem (by simp; omega))⟩
      have f4 := hb.frozen k
      have z0 : (k : Int) < 16 := by omega
      have HX := Lib.hid hx
      clear hf hb hx
      go_wp2_with fail
      go_roundw
      case rel =>
        refine ⟨k + 1, by omega, by go_num, HF.out.setCell (p := ⟨w3.heap.size + 1, k, none⟩) (fun _ => rfl) _, ?_⟩
        have := HK.out.set_ k (Proofs.Ytnholkjgdpapbaa.u8 x)
        rw [← cpre_set (by omega) x HX.out]
        simpa using this
      case measure => simp [intOf]; omega
    · obtain rfl : k = 16 := by omega
      have ha : (eB 16).at_ wr (w3.heap.size + 1) 0 = some (halfY l) := (eB 16).at_of (by
        rw [cpre_all (by rw [sumB_length]; omega)] at hb
        exact hb.all (by simp [sumB_length]))
      have ho : okA wr w.heap.size 0 16 = true := by rw [okA_frS hf _ _ _ (by have := H.out.1.lt; omega) (by omega)]; exact H.out.2.1
      clear hf hb
      go_wp2_with fail
      exact fin_E (eB 16) rfl Try.underlying24 rfl einfo_bulletin_bulletinref06_N (by rfl) rfl ho ⟨rfl, (H.out.2.2.then_ (S := fun _ => False) HF.out (fun i hi e => by omega)).fin _ (Nat.le_refl _) _ _⟩

theorem run_appz (w : World) (k : Nat) (h0 : 0 < k) (hk : k ≤ 2000000000) :
    ∃ c w', (app #[22, 3] 22 #[.slice none 0 0, .int .i64 (k : Int)]).run Try.prog w = .ok (.slice (some ⟨w.heap.size, 0, none⟩) k c) w' ∧ k ≤ c ∧ c ≤ maxLen ∧ w'.ownsRow w.heap.size 5 1 (.slice (some ⟨w.heap.size, 0, none⟩) 0 c) ([] : List UInt8).length (bs []) ∧ Fr0 w w' := by
  obtain ⟨i, hi, h1⟩ := Option.map_eq_some_iff.1 (show (Try.prog.info? 5).map (fun i => (i.size, i.bytes, i.zero)) = some (1, 1, some (.int .u8 0)) by kernel_rfl)
  simp only [Prod.mk.injEq] at h1
  obtain ⟨h1, h2, h3⟩ := h1
  have hmx := grownCap_le_maxLen w (0 + k) 0 5 (by unfold maxLen; omega)
  have hge := grownCap_ge w (0 + k) 0 5
  have hrun := Lib.run_append_grow_zeros (P := Try.prog) w 22 3 22 5 i (.int .u8 0) .i64 .i64 Try.underlying22 Try.underlying3 hi h3 none 0 0 [] (by rw [h1]; rfl) k h0 (by omega) (by omega) (by omega) (by rw [h2]; omega) (by
    rw [h2]; unfold Builtin.nextslicecap; split <;> omega)
  have hz : 0 + k = k := Nat.zero_add k
  rw [hz] at hrun hmx hge
  refine ⟨_, _, hrun, hge, hmx, ⟨by simp, .inr ⟨w.heap.size, _, _, rfl, Nat.le_refl _, alloc_heap_new _ _, Nat.zero_le _, hmx, ?_, by simp [bs]⟩⟩, (Fr.refl _ _).drew.alloc _⟩
  simp [Builtin.zeroCells, Value.cells]
  omega

set_option maxHeartbeats 1000000 in
theorem grow_any (k : Nat) (hk : k ≤ 2000000000) (w : World) :
    Calls Try.prog 49 #[.slice none 0 0, .int .i64 (k : Int)] w fun e w' => ∃ v, e = .returned v ∧ w'.ownsRow w.heap.size 5 1 v ([] : List UInt8).length (bs []) ∧ Fr0 w w' := by
  have z0 : (0 : Int) ≤ (k : Int) := by omega
  by_cases h0 : 0 < k
  · have z1 : (0 : Int) < (k : Int) := by omega
    obtain ⟨c, w', hrun, hc, hm, hown, hf⟩ := run_appz w k h0 hk
    have H := Lib.hid (And.intro hown hf)
    clear hown hf
    go_enter Try.func49, Try.ntmps49
    go_wp2_with fail
    go_ret
    exact ⟨_, rfl, H.out⟩
  · have z1 : (k : Int) = 0 := by omega
    go_enter Try.func49, Try.ntmps49
    go_wp2_with fail
    go_ret
    exact ⟨_, rfl, own_nil8 _ _, Fr.refl _ _⟩

theorem flat_take (rows : List (List UInt8)) (k : Nat) (hk : k < rows.length) : (rows.take (k + 1)).flatten = (rows.take k).flatten ++ rows[k] := by
  rw [List.take_succ_eq_append_getElem hk, List.flatten_append, List.flatten_cons, List.flatten_nil, List.append_nil]
theorem flat_le (rows : List (List UInt8)) (k : Nat) : (rows.take k).flatten.length ≤ rows.flatten.length := by
  have h : rows.flatten = (rows.take k).flatten ++ (rows.drop k).flatten := by rw [← List.flatten_append, List.take_append_drop]
  rw [h, List.length_append]; omega
/-- Rows of bytes, given as a slice of slices. -/
structure Rows_ (w : World) (A : Option Addr) (c : Nat) (rows : List (List UInt8)) : Prop where
  cap : rows.length ≤ c ∧ c ≤ maxLen
  at_ : 0 < rows.length → ∃ b off, A = some ⟨b, off, none⟩ ∧ b < w.heap.size ∧ ∀ k (hk : k < rows.length), ∃ Ax cx, w.cell? ⟨b, off + k, none⟩ = some (.slice Ax rows[k].length cx) ∧ Rd w w.heap.size (.slice Ax rows[k].length cx) rows[k]

theorem Rows_.drew {w : World} {A : Option Addr} {c : Nat} {rows : List (List UInt8)} (h : Rows_ w A c rows) : Rows_ w.drew A c rows := ⟨h.cap, h.at_⟩
theorem Rows_.fr0 {w w' : World} {A : Option Addr} {c : Nat} {rows : List (List UInt8)} (h : Rows_ w A c rows) (hf : Fr0 w w') : Rows_ w' A c rows := ⟨h.cap, fun h0 => by
  obtain ⟨b, off, hA, hb, hx⟩ := h.at_ h0
  refine ⟨b, off, hA, Nat.lt_of_lt_of_le hb hf.size, fun k hk => ?_⟩
  obtain ⟨Ax, cx, h1, h2⟩ := hx k hk
  exact ⟨Ax, cx, (hf.cell (p := ⟨b, off + k, none⟩) hb (fun h => h)).trans h1, (h2.fr0 hf).mono hf.size⟩⟩
set_option maxHeartbeats 1000000 in
theorem concat_any (rows : List (List UInt8)) (A : Option Addr) (c : Nat) (w : World) (hs : Rows_ w A c rows) (hl : rows.flatten.length ≤ 1000000000) (h0 : 0 < rows.length) :
    Calls Try.prog 36 #[.slice A rows.length c] w fun e w' => ∃ A2 c2, e = .returned (.slice A2 rows.flatten.length c2) ∧ OwnB w' w.heap.size A2 c2 rows.flatten.length rows.flatten ∧ Fr0 w w' := by
  obtain ⟨b, off, rfl, hb, hx⟩ := hs.at_ h0
  obtain ⟨hc1, hc2⟩ := hs.cap
  unfold maxLen at hc2
  have HX := Lib.hid hx
  have HL := Lib.hid hl
  have H0 := Lib.hid h0
  obtain ⟨n, HN⟩ := nm rows.length
  rw [← HN.out] at hc1 ⊢
  clear hx hl h0 hs
  go_enter Try.func36, Try.ntmps36
  go_wp2_with fail
  go_loopw [3, 5, 11] (fun s _ i wr => ∃ k m : Nat, k ≤ n ∧ i = .int .i64 k ∧ s = .int .i64 m ∧ RowKit.Hid (m = (rows.take k).flatten.length) ∧ wr = w) (fun _ _ i _ => n - (intOf i).toNat)
  case atStart => exact ⟨0, 0, by omega, rfl, rfl, Lib.hid (by simp), rfl⟩
  case round =>
    obtain ⟨k, m, hk, rfl, rfl, HM, rfl⟩ := hrel
    have hm : m ≤ 1000000000 := by have := HM.out; have := flat_le rows k; have := HL.out; omega
    by_cases hlt : k < n
    · have hkr : k < rows.length := by have := HN.out; omega
      obtain ⟨Ax, cx, hcl, hrd⟩ := HX.out k hkr
      obtain ⟨Ay, cy, he, hq1, hq2⟩ := hrd.form
      have HFT := Lib.hid (flat_take rows k hkr)
      obtain ⟨L, HL2⟩ := nm rows[k].length
      rw [← HL2.out] at hcl
      have hmL : m + L ≤ 1000000000 := by
        have h1 := flat_le rows (k + 1)
        rw [HFT.out, List.length_append] at h1
        have := HM.out; have := HL2.out; have := HL.out; omega
      have z0 : (k : Int) < (n : Int) := by omega
      have z2 : (0 : Int) ≤ (m : Int) + (L : Int) := by omega
      clear hrd he hq1 hq2
      go_wp2_with fail
      go_roundw
      case rel => exact ⟨k + 1, m + L, by omega, by go_num, by go_num, Lib.hid (by rw [HFT.out, List.length_append, ← HM.out, ← HL2.out]), trivial⟩
      case measure => simp [intOf]; omega
    · obtain rfl : n = k := by omega
      have hmf : m = rows.flatten.length := by rw [HM.out, HN.out, List.take_length]
      have HMF := Lib.hid hmf
      clear hmf
      go_wp2_with fail
      refine (grow_any m (by omega) wr).mono ?_
      rintro e w2 ⟨v, rfl, hown, hf⟩
      obtain ⟨A0, c0, rfl, -, -⟩ := own_form hown
      have hb0 : OwnB w2 wr.heap.size A0 c0 0 [] := ⟨hown, rfl⟩
      have H2 := Lib.hid (And.intro hb0 hf)
      clear hown hf hb0
      simp only [List.length_nil]
      go_wp2_with fail
      go_loopw [6, 8, 27] (fun v _ i ws => ∃ k A2 c2 L, k ≤ n ∧ i = .int .i64 (k : Nat) ∧ v = .slice A2 L c2 ∧ L ≤ c2 ∧ c2 ≤ maxLen ∧ L ≤ 1000000000 ∧ RowKit.Hid (OwnB ws wr.heap.size A2 c2 L (rows.take k).flatten) ∧ RowKit.Hid (Fr0 wr ws)) (fun _ _ i _ => n - (intOf i).toNat)
      case atStart => exact ⟨0, A0, c0, 0, by omega, rfl, rfl, by omega, H2.out.1.cap.2, by omega, Lib.hid (by simpa using H2.out.1), Lib.hid H2.out.2⟩
      case round =>
        obtain ⟨k, A1, c1, L, hk, rfl, rfl, hc3, hc4, hL, HO, HF⟩ := hrel
        by_cases hlt : k < n
        · have hkr : k < rows.length := by have := HN.out; omega
          obtain ⟨Ax, cx, hcl0, hrd⟩ := HX.out k hkr
          have hcl := (HF.out.cell (p := ⟨b, off + k, none⟩) hb (fun h => h)).trans hcl0
          obtain ⟨M, HM2⟩ := nm rows[k].length
          rw [← HM2.out] at hcl hrd
          have HFT := Lib.hid (flat_take rows k hkr)
          have hLM : L + M ≤ 1000000000 := by
            have h1 := flat_le rows (k + 1)
            rw [HFT.out, List.length_append] at h1
            have := HO.out.len; have := HM2.out; have := HL.out; omega
          obtain ⟨A2, c2, w3, hrun, ho3, hf3, hc5, hc6⟩ := HO.out.app HF.out rfl (hrd.fr0 HF.out) (by omega)
          have HO3 := Lib.hid ho3
          have HF3 := Lib.hid hf3
          clear hcl0 hrd ho3 hf3
          have z0 : (k : Int) < (n : Int) := by omega
          go_wp2_with fail
          go_roundw
          case rel => exact ⟨k + 1, A2, c2, L + M, by omega, by go_num, rfl, hc5, hc6, by omega, Lib.hid (by rw [HFT.out]; exact HO3.out), HF3⟩
          case measure => simp [intOf]; omega
        · obtain rfl : n = k := by omega
          go_wp2_with fail
          go_ret
          have h1 := HO.out
          rw [HN.out, List.take_length] at h1
          have h2 := h1.len
          rw [h2]
          exact ⟨_, _, rfl, h1, HF.out⟩
end Go.Proofs.Ytnholkjgdpapbaa
