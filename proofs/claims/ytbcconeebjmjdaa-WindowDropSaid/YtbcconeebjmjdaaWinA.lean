/- Chapter 36, the window's own functions: contracts, part A: outstanding, find$1, IndexFunc, find. No condition beyond the lengths that are named. -/
import Derived.Test.YtbcconeebjmjdaaWinV
namespace Go.Proofs.Ytbcconeebjmjdaa
open Go.RowKit

def offsC (l : List Off) : List Value := l.flatMap offC
@[simp] theorem offsC_length (l : List Off) : (offsC l).length = l.length * 34 := by
  induction l with
  | nil => rfl
  | cons o l ih => simp only [offsC, List.flatMap_cons, List.length_append, offC_length, List.length_cons] at ih ⊢; omega
theorem offsC_cut (l : List Off) (k : Nat) (h : k < l.length) : ((offsC l).drop (k * 34)).take 34 = offC l[k] := by
  induction l generalizing k with
  | nil => simp at h
  | cons o l ih =>
    cases k with
    | zero => simp [offsC]
    | succ k =>
      have := ih k (by simpa using h)
      simp only [offsC, List.flatMap_cons, List.getElem_cons_succ] at this ⊢
      rw [← this, List.drop_append]
      simp only [offC_length, show (k + 1) * 34 - 34 = k * 34 by omega, List.drop_of_length_le (show (offC o).length ≤ (k + 1) * 34 by simp; omega), List.nil_append]

theorem offsC_one (l : List Off) : ∀ u ∈ offsC l, u.oneCell' = true := by
  intro u hu
  simp only [offsC, List.mem_flatMap] at hu
  obtain ⟨o, _, ho⟩ := hu
  exact List.all_eq_true.1 (offC_one o) u ho
def isOut (o : Off) : Bool := decide (o.oc = 0 ∨ o.oc = 1)

theorem outstanding_any (o : Off) (w : World) : Calls Try.prog 37 #[.agg (offC o).toArray] w fun e w' => e = .returned (.bool (isOut o)) ∧ Fr0 w w' := by
  unfold isOut
  by_cases h : o.oc = 0
  · go_enter Try.func37, Try.ntmps37
    go_wp2
    go_ret
    exact ⟨by simp [h], (Fr.refl _ _).alloc _⟩
  · by_cases h1 : o.oc = 1
    · go_enter Try.func37, Try.ntmps37
      go_wp2
      go_ret
      exact ⟨by simp [h1], (Fr.refl _ _).alloc _⟩
    · go_enter Try.func37, Try.ntmps37
      go_wp2
      go_ret
      exact ⟨by simp [h, h1], (Fr.refl _ _).alloc _⟩

theorem find1_any (o : Off) (id : By 32) (b : Nat) (w : World) (hb : Blk w b 37 (bs id.1).toArray) :
    Calls Try.prog 43 #[.agg (offC o).toArray, .pointer (some ⟨b, 0, none⟩)] w fun e w' => e = .returned (.bool (decide (o.id = id))) ∧ Fr0 w w' := by
  have hq : b < w.heap.size := hb.lt
  have hl := hb.ldA 0 32 (by simp)
  clear hb
  go_enter Try.func43, Try.ntmps43
  go_wp2
  go_ret
  exact ⟨rfl, (Fr.refl _ _).alloc _⟩

/-- The place of the first offer that p picks, from k on; -1 if there is none. -/
def idx (p : Off → Bool) (l : List Off) : Int := match l.findIdx? p with | some i => (i : Int) | none => -1

theorem indexFunc_any (fid : FuncId) (cap : Array Value) (p : Off → Bool) (l : List Off) (v : Value) (w : World)
    (hc : ∀ o w1, Fr0 w w1 → Calls Try.prog fid (#[.agg (offC o).toArray] ++ cap) w1 fun e w' => e = .returned (.bool (p o)) ∧ Fr0 w1 w')
    (hcf : ∀ (args : Array Value) (w1 : World), (callFunc fid args).run Try.prog w1 = .ok (.enter fid args) w1) (hs : Sl w 81 34 v l.length (offsC l)) :
    Calls Try.prog 36 #[v, .func (.func fid) #[] cap] w fun e w' => e = .returned (.int .i64 (idx p l)) ∧ Fr0 w w' := by
  obtain ⟨A, c, rfl, hlc, hcm⟩ := hs.form
  unfold maxLen at hcm
  have HC := Lib.hid hc
  have HS := Lib.hid hs
  clear hc hs
  go_enter Try.func36, Try.ntmps36
  go_wp2_with fail
  go_loopw [8] (fun i wr => ∃ k : Nat, k ≤ l.length ∧ i = .int .i64 k ∧ (∀ j (h : j < k) (h' : j < l.length), p l[j] = false) ∧ Fr0 w wr) (fun i _ => l.length - (intOf i).toNat)
  case atStart => exact ⟨0, by omega, rfl, by omega, Fr.refl _ _⟩
  case round =>
    obtain ⟨k, hk, rfl, hno, hfr⟩ := hrel
    have HNO := Lib.hid hno
    have HFR := Lib.hid hfr
    clear hno hfr
    by_cases hlt : k < l.length
    · obtain ⟨b, off, rfl, hb, hld⟩ := (HS.out.fr0 HFR.out).ldA hlt (by omega)
      rw [offsC_cut l k hlt] at hld
      go_wp2_with fail
      refine (HC.out l[k] wr HFR.out).mono ?_
      rintro e w1 ⟨rfl, hf1⟩
      have HF1 := Lib.hid hf1
      clear hf1
      by_cases hp : p l[k] = true
      · go_wp2_with fail
        go_ret
        refine ⟨?_, HFR.out.trans HF1.out⟩
        have : l.findIdx? p = some k := by
          rw [List.findIdx?_eq_some_iff_getElem]
          exact ⟨hlt, hp, fun j hj => by simp [HNO.out j hj (by omega)]⟩
        simp [idx, this]
      · have hp' : p l[k] = false := by simpa using hp
        clear hp
        go_wp2_with fail
        go_roundw
        case rel => exact ⟨k + 1, by omega, by go_num, fun j hj h' => by
          by_cases hjk : j = k
          · subst hjk; exact hp'
          · exact HNO.out j (by omega) h', HFR.out.trans HF1.out⟩
        case measure => simp [intOf]; omega
    · go_wp2_with fail
      go_ret
      refine ⟨?_, HFR.out⟩
      have : l.findIdx? p = none := by
        rw [List.findIdx?_eq_none_iff]
        intro x hx
        obtain ⟨j, hj, rfl⟩ := List.getElem_of_mem hx
        exact HNO.out j (by omega) hj
      simp [idx, this]

end Go.Proofs.Ytbcconeebjmjdaa
