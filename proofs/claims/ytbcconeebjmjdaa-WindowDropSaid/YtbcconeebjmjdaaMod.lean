/- Chapter 36: the law's model: outstanding, find, possible. No condition beyond the lengths that are named. -/
import Derived.Test.YtbcconeebjmjdaaWinL
namespace Go.Proofs.Ytbcconeebjmjdaa
open Go.RowKit
attribute [local go_sem ↓] Go.wp_at_zero Go.wp_at_succ

/-- A model as a value: its size and its list. -/
abbrev mdV (m : Win) (v : Value) : Value := .agg #[.int .i64 m.size, v]
abbrev mdC (m : Win) (v : Value) : Array Value := #[.int .i64 m.size, v]

theorem ldA_sub {w : World} {b o n : Nat} {cs : Array Value} (h : ldA w b o n = some cs) (i m : Nat) (him : i + m ≤ n) : ldA w b (o + i) m = some (cs.extract i (i + m)) := by
  unfold ldA at h ⊢
  split at h
  · rename_i c e f hh
    split at h
    · rename_i hle
      obtain rfl : c.extract o (o + n) = cs := by simpa using h
      rw [if_pos (show o + i + m ≤ c.size by omega)]
      simp only [Array.extract_extract, Option.some.injEq]
      congr 1
      omega
    · cases h
  · cases h
theorem offC_ids (o : Off) : (offC o).toArray.extract 0 32 = (bs o.id.1).toArray := by
  simp [offC]
theorem off_at {w : World} {E : TypeId} {A : Option Addr} {c k : Nat} {l : List Off} (hs : Sl w E 34 (.slice A l.length c) l.length (offsC l)) (hk : k < l.length) :
    ∃ b off, A = some ⟨b, off, none⟩ ∧ b < w.heap.size ∧ ldA w b (off + k * 34) 34 = some (offC l[k]).toArray ∧ ldA w b (off + k * 34) 32 = some (bs l[k].id.1).toArray ∧ w.cell? ⟨b, off + k * 34 + 33, none⟩ = some (.int .i64 l[k].oc) := by
  obtain ⟨b, off, hA, hb, hc⟩ := hs.at_ hk
  obtain ⟨b', off', hA', _, hld⟩ := hs.ldA hk (by omega)
  rw [hA] at hA'
  simp only [Option.some.injEq, Addr.mk.injEq, and_true] at hA'
  obtain ⟨rfl, rfl⟩ := hA'
  rw [offsC_cut l k hk] at hld
  refine ⟨b, off, hA, hb, hld, ?_, ?_⟩
  · have := ldA_sub hld 0 32 (by omega)
    rwa [offC_ids, Nat.add_zero] at this
  · rw [Nat.add_assoc]
    refine hc _ _ ?_
    have := congrArg (·[33]?) (offsC_cut l k hk)
    simp only [List.getElem?_take, List.getElem?_drop] at this
    rw [if_pos (by omega)] at this
    rw [this]
    simp

theorem possible_any (i j : Int) (w : World) : Calls Try.prog 31 #[.int .i64 i, .int .i64 j] w fun e w' => e = .returned (.bool (poss i j)) ∧ w = w' := by
  rcases (show i = 0 ∨ i = 1 ∨ (i ≠ 0 ∧ i ≠ 1) by omega) with rfl | rfl | ⟨h0, h1⟩
  · rcases (show j = 1 ∨ j = 3 ∨ j = 4 ∨ j = 5 ∨ (j ≠ 1 ∧ j ≠ 3 ∧ j ≠ 4 ∧ j ≠ 5) by omega) with rfl | rfl | rfl | rfl | ⟨h1, h3, h4, h5⟩
    case inr.inr.inr.inr =>
      have b1 : (j == 1) = false := by simpa using h1
      have b3 : (j == 3) = false := by simpa using h3
      have b4 : (j == 4) = false := by simpa using h4
      have b5 : (j == 5) = false := by simpa using h5
      go_enter Try.func31, Try.ntmps31
      go_wp2_with fail
      go_ret
      exact ⟨ret_bool (by simp [poss, h1, h3, h4, h5]), rfl⟩
    all_goals
      go_enter Try.func31, Try.ntmps31
      go_wp2_with fail
      go_ret
      exact ⟨rfl, rfl⟩
  · rcases (show j = 2 ∨ j = 4 ∨ j = 5 ∨ (j ≠ 2 ∧ j ≠ 4 ∧ j ≠ 5) by omega) with rfl | rfl | rfl | ⟨h2, h4, h5⟩
    case inr.inr.inr =>
      have b2 : (j == 2) = false := by simpa using h2
      have b4 : (j == 4) = false := by simpa using h4
      have b5 : (j == 5) = false := by simpa using h5
      go_enter Try.func31, Try.ntmps31
      go_wp2_with fail
      go_ret
      exact ⟨ret_bool (by simp [poss, h2, h4, h5]), rfl⟩
    all_goals
      go_enter Try.func31, Try.ntmps31
      go_wp2_with fail
      go_ret
      exact ⟨rfl, rfl⟩
  · have b0 : (i == 0) = false := by simpa using h0
    have b1 : (i == 1) = false := by simpa using h1
    go_enter Try.func31, Try.ntmps31
    go_wp2_with fail
    go_ret
    exact ⟨ret_bool (by simp [poss, h0, h1]), rfl⟩

theorem mout_any (m : Win) (v : Value) (w : World) (hs : Sl w 72 34 v m.l.length (offsC m.l)) (hi : Inv m) (hl : m.l.length ≤ 10000) :
    Calls Try.prog 27 #[mdV m v] w fun e w' => ∃ u, e = .returned u ∧ w'.ownsRow w.heap.size 37 32 u (outs m.l).length (idsC (outs m.l)) ∧ Fr0 w w' := by
  obtain ⟨A, c, rfl, hlc, hcm⟩ := hs.form
  unfold maxLen at hcm
  have HI := Lib.hid hi
  have HS := Lib.hid (hs.alloc (.cells (mdC m (.slice A m.l.length c)) 58))
  have HF0 := Lib.hid ((Fr.refl (fun _ => False) w).alloc (.cells (mdC m (.slice A m.l.length c)) 58))
  have HB0 := Lib.hid (Blk.new w 58 (mdC m (.slice A m.l.length c)))
  clear hs hi
  go_enter Try.func27, Try.ntmps27
  go_wp2_with fail
  go_loopw [3, 4] (fun v i wr => ∃ k : Nat, k ≤ m.l.length ∧ i = .int .i64 k ∧ wr.ownsRow (w.heap.size + 1) 37 32 v (outs (m.l.take k)).length (idsC (outs (m.l.take k))) ∧ Fr0 (w.alloc (.cells (mdC m (.slice A m.l.length c)) 58)) wr) (fun _ i _ => m.l.length - (intOf i).toNat)
  case atStart => exact ⟨0, by omega, rfl, World.ownsRow_nil _ _ _ _, Fr.refl _ _⟩
  case round =>
    obtain ⟨k, hk, rfl, hown, hfr⟩ := hrel
    have hc1 : wr.cell? ⟨w.heap.size, 1, none⟩ = some (.slice A m.l.length c) := by
      have := (Blk.fr (S := fun _ => False) HB0.out hfr (fun h => h)).cell 1
      simpa using this
    have HO := Lib.hid hown
    have HFR := Lib.hid hfr
    clear hown hfr
    by_cases hlt : k < m.l.length
    · obtain ⟨b, off, rfl, hbs, -, hld, h33⟩ := off_at (HS.out.fr0 HFR.out) hlt
      have htk : m.l.take (k + 1) = m.l.take k ++ [m.l[k]] := by rw [List.take_succ_eq_append_getElem hlt]
      have hoc := HI.out.oc m.l[k] (List.getElem_mem hlt)
      have hsz : w.heap.size + 1 ≤ wr.heap.size := by have := HFR.out.size; simpa using this
      cases hio : isOut m.l[k] with
      | true =>
        have hlt2 : m.l[k].oc < 2 := by simp only [isOut, decide_eq_true_eq] at hio; omega
        have HN := Lib.hid (show outs (m.l.take (k + 1)) = outs (m.l.take k) ++ [m.l[k].id] by rw [htk, outs_snoc, hio]; rfl)
        have hlen : (outs (m.l.take k)).length ≤ k := by
          have h1 := List.length_filter_le isOut (m.l.take k)
          have h2 := List.length_take_le k m.l
          simp only [outs, List.length_map]; omega
        obtain ⟨v', w2, hrun, hown2, hgr2, hat2⟩ := run_app (wr.alloc (.cells (bs m.l[k].id.1).toArray 37)) app_id 33 (HO.out.alloc _) (Sl.new wr 37 32 1 (bs m.l[k].id.1) (by simp) (by unfold maxLen; omega)) (fun u hu => List.all_eq_true.1 (idC_one m.l[k].id) u hu) (by unfold maxLen; omega) (by omega) (by simp; omega)
        have HO2 := Lib.hid hown2
        have HG := Lib.hid hgr2
        clear hown2 hgr2 hat2 htk hio
        go_wp2_with fail
        go_roundw
        case rel =>
          refine ⟨k + 1, by omega, by go_num, ?_, Fr.app (HFR.out.alloc _) HG.out (fun j hj hlt => ?_)⟩
          · rw [HN.out]; simpa [idsC] using HO2.out
          · have := own_ge _ HO.out j hj; simp at hlt; omega
        case measure => simp [intOf]; omega
      | false =>
        have hlt2 : ¬ m.l[k].oc < 2 := by simp only [isOut, decide_eq_false_iff_not] at hio; omega
        have HN := Lib.hid (show outs (m.l.take (k + 1)) = outs (m.l.take k) by rw [htk, outs_snoc, hio]; simp)
        clear htk hio
        go_wp2_with fail
        go_roundw
        case rel => exact ⟨k + 1, by omega, by go_num, by rw [HN.out]; exact HO.out, HFR.out⟩
        case measure => simp [intOf]; omega
    · go_wp2_with fail
      go_ret
      have : m.l.take k = m.l := List.take_of_length_le (by omega)
      have ho := HO.out
      rw [this] at ho
      exact ⟨_, rfl, own_mono ho (by omega), HF0.out.trans HFR.out⟩

theorem idx_at (p : Off → Bool) (l : List Off) (k : Nat) (hk : k < l.length) (hp : p l[k] = true) (hno : ∀ j (hj : j < l.length), j < k → p l[j] = false) : idx p l = (k : Int) := by
  have : l.findIdx? p = some k := by
    rw [List.findIdx?_eq_some_iff_getElem]
    exact ⟨hk, hp, fun j hj => by simp [hno j (by omega) hj]⟩
  unfold idx
  rw [this]

theorem mfind_any (m : Win) (v : Value) (id : By 32) (w : World) (hs : Sl w 72 34 v m.l.length (offsC m.l)) (hl : m.l.length ≤ 10000) :
    Calls Try.prog 30 #[mdV m v, idV id] w fun e w' => e = .returned (.int .i64 (idx (hasId id) m.l)) ∧ Fr0 w w' := by
  obtain ⟨A, c, rfl, hlc, hcm⟩ := hs.form
  unfold maxLen at hcm
  have HS := Lib.hid ((hs.alloc (.cells (mdC m (.slice A m.l.length c)) 58)).alloc (.cells (bs id.1).toArray 37))
  have HF0 := Lib.hid (((Fr.refl (fun _ => False) w).alloc (.cells (mdC m (.slice A m.l.length c)) 58)).alloc (.cells (bs id.1).toArray 37))
  have HB0 := Lib.hid ((Blk.new w 58 (mdC m (.slice A m.l.length c))).alloc (.cells (bs id.1).toArray 37))
  have HB1 := Lib.hid (Blk.new (w.alloc (.cells (mdC m (.slice A m.l.length c)) 58)) 37 (bs id.1).toArray)
  clear hs
  go_enter Try.func30, Try.ntmps30
  go_wp2_with fail
  go_loopw [5] (fun i wr => ∃ k : Nat, k ≤ m.l.length ∧ i = .int .i64 k ∧ (∀ j (hj : j < m.l.length), j < k → hasId id m.l[j] = false) ∧ Fr0 ((w.alloc (.cells (mdC m (.slice A m.l.length c)) 58)).alloc (.cells (bs id.1).toArray 37)) wr) (fun i _ => m.l.length - (intOf i).toNat)
  case atStart => exact ⟨0, by omega, rfl, fun _ _ h => by omega, Fr.refl _ _⟩
  case round =>
    obtain ⟨k, hk, rfl, hno, hfr⟩ := hrel
    have HNO := Lib.hid hno
    have hc1 : wr.cell? ⟨w.heap.size, 1, none⟩ = some (.slice A m.l.length c) := by
      have := (Blk.fr (S := fun _ => False) HB0.out hfr (fun h => h)).cell 1
      simpa using this
    have hldid : ldA wr (w.heap.size + 1) 0 32 = some (bs id.1).toArray := by
      have := (Blk.fr (S := fun _ => False) HB1.out hfr (fun h => h)).ldA 0 32 (by simp)
      simpa using this
    have HFR := Lib.hid hfr
    clear hno hfr
    by_cases hlt : k < m.l.length
    · obtain ⟨b, off, rfl, hbs, -, hld, -⟩ := off_at (HS.out.fr0 HFR.out) hlt
      cases hid : hasId id m.l[k] with
      | true =>
        have hd : decide (m.l[k].id = id) = true := hid
        have HE := Lib.hid (idx_at _ _ k hlt hid HNO.out)
        clear hid
        go_wp2_with fail
        go_quiet (fail)
        go_wp2_with fail
        go_ret
        exact ⟨ret_int HE.out.symm, HF0.out.trans (HFR.out.drewN _)⟩
      | false =>
        have hd : decide (m.l[k].id = id) = false := hid
        have HN := Lib.hid hid
        clear hid
        go_wp2_with fail
        go_quiet (fail)
        go_wp2_with fail
        go_roundw
        case rel =>
          refine ⟨k + 1, by omega, by go_num, fun j hj hjk => ?_, HFR.out.drewN _⟩
          rcases (show j < k ∨ j = k by omega) with hjk | rfl
          · exact HNO.out j hj hjk
          · exact HN.out
        case measure => simp [intOf]; omega
    · go_wp2_with fail
      go_ret
      refine ⟨?_, HF0.out.trans HFR.out⟩
      have : m.l.find? (hasId id) = none := by
        rw [List.find?_eq_none]
        intro o ho
        obtain ⟨j, hj, rfl⟩ := List.getElem_of_mem ho
        rw [HNO.out j hj (by omega)]; simp
      exact ret_int (idx_neg _ _ this).symm
end Go.Proofs.Ytbcconeebjmjdaa
