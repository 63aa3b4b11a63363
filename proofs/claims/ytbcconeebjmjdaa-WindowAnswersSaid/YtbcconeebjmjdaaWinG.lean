/- Chapter 36, the window's own functions: contracts, part G: DeleteFunc, Drop. No condition beyond the lengths that are named. -/
import Derived.Test.YtbcconeebjmjdaaWinF
namespace Go.Proofs.Ytbcconeebjmjdaa
open Go.RowKit
attribute [local go_sem ↓] Go.wp_at_zero Go.wp_at_succ

def notOut (o : Off) : Bool := !isOut o

theorem offsC_setAt (X : List Off) (i : Nat) (hi : i < X.length) (o : Off) : offsC (X.set i o) = (offsC X).take (i * 34) ++ (offC o ++ (offsC X).drop (i * 34 + 34)) := by
  rw [List.set_eq_take_append_cons_drop, if_pos hi, offsC_take]
  have : i * 34 + 34 = (i + 1) * 34 := by omega
  rw [this, offsC_drop]
  simp [offsC]

theorem off_clr : (match Try.prog.info? 81 with | some i => (match i.zero with | some z => z.cells.all (·.oneCell') | none => false) | none => false) = true := by kernel_rfl

/-- slices.DeleteFunc on a slice of the call's own: what is left stands at its front; only its own block is written. -/
theorem delete_any (l : List Off) (g cap base : Nat) (w : World) (ho : w.ownsRow base 81 34 (.slice (some ⟨g, 0, none⟩) l.length cap) l.length (offsC l)) (_ : l.length ≤ 10000) :
    Calls Try.prog 41 #[.slice (some ⟨g, 0, none⟩) l.length cap, .func (.func 37) #[] #[]] w fun e w' =>
      e = .returned (.slice (some ⟨g, 0, none⟩) (l.filter notOut).length cap) ∧ Sl w' 81 34 (.slice (some ⟨g, 0, none⟩) (l.filter notOut).length cap) (l.filter notOut).length (offsC (l.filter notOut)) ∧ Fr1 g w w' := by
  have hs := Sl.of_own ho
  obtain ⟨hlc, hcm⟩ := hs.bounds
  have HO := Lib.hid ho
  have HS := Lib.hid hs
  unfold maxLen at hcm
  clear ho hs
  have hcase : (idx isOut l = -1 ∧ l.filter notOut = l) ∨ ∃ i0, ∃ hi0 : i0 < l.length, idx isOut l = (i0 : Int) ∧ isOut l[i0] = true ∧ ∀ j (hj : j < i0), isOut (l[j]'(by omega)) = false := by
    cases hfi : l.findIdx? isOut with
    | none =>
      refine .inl ⟨by simp [idx, hfi], ?_⟩
      rw [List.findIdx?_eq_none_iff] at hfi
      exact List.filter_eq_self.2 (fun o hm => by simp [notOut, hfi o hm])
    | some i0 =>
      obtain ⟨hi0, hd0, hno⟩ := List.findIdx?_eq_some_iff_getElem.1 hfi
      exact .inr ⟨i0, hi0, by simp [idx, hfi], hd0, fun j hj => by simpa using hno j hj⟩
  rcases hcase with ⟨hi, hflt⟩ | ⟨i0, hi0, hi, hd0, hno⟩
  · have HFL := Lib.hid hflt
    clear hflt
    go_enter Try.func41, Try.ntmps41
    go_wp2_with fail
    refine (indexFunc_any _ #[] isOut l _ _ (fun o w1 hf => ?_) cf_outstanding HS.out).mono ?_
    · exact outstanding_any o w1
    rintro e w1 ⟨rfl, hf⟩
    have HF := Lib.hid hf
    have HO1 := Lib.hid (own_fr0 HO.out hf)
    have HS1 := Lib.hid (HS.out.fr0 hf)
    clear hf
    rw [hi]
    clear hi
    go_wp2_with fail
    go_ret
    rw [HFL.out]
    exact ⟨rfl, HS1.out, HF.out.of0⟩
  · have HNO := Lib.hid hno
    have HD := Lib.hid hd0
    clear hno hd0
    have hb0 : ((i0 : Int) == -1) = false := by simp
    go_enter Try.func41, Try.ntmps41
    go_wp2_with fail
    refine (indexFunc_any _ #[] isOut l _ _ (fun o w1 hf => ?_) cf_outstanding HS.out).mono ?_
    · exact outstanding_any o w1
    rintro e w1 ⟨rfl, hf⟩
    have HF := Lib.hid hf
    have HO1 := Lib.hid (own_fr0 HO.out hf)
    have HS1 := Lib.hid (HS.out.fr0 hf)
    clear hf
    rw [hi]
    clear hi
    go_wp2_with fail
    go_loopw [5, 6] (fun iv jv wr => ∃ (i j : Nat) (X : List Off), iv = .int .i64 i ∧ jv = .int .i64 j ∧ i < j ∧ j ≤ l.length ∧ X.length = l.length ∧ X.take i = (l.take j).filter notOut ∧ X.drop j = l.drop j ∧
        wr.ownsRow base 81 34 (.slice (some ⟨g, 0, none⟩) l.length cap) l.length (offsC X) ∧ Fr1 g w wr) (fun _ j _ => l.length - (intOf j).toNat)
    case atStart =>
      refine ⟨i0, i0 + 1, l, rfl, by go_num, by omega, by omega, rfl, ?_, rfl, HO1.out, HF.out.of0⟩
      rw [List.take_succ_eq_append_getElem hi0, List.filter_append]
      have h1 : (l.take i0).filter notOut = l.take i0 := List.filter_eq_self.2 (fun o hm => by
        obtain ⟨j, hj, rfl⟩ := List.getElem_of_mem hm
        simp only [List.length_take] at hj
        simp only [List.getElem_take, notOut]
        have := HNO.out j (by omega)
        simpa using this)
      rw [h1]
      simp [notOut, HD.out]
    case round =>
      obtain ⟨i, j, X, rfl, rfl, hij, hjl, hXl, hXt, hXd, hown, hfr⟩ := hrel
      have HXT := Lib.hid hXt
      have HXD := Lib.hid hXd
      have HXL := Lib.hid hXl
      have HOr := Lib.hid hown
      have HFr := Lib.hid hfr
      have hiX : i < X.length := by omega
      clear hXt hXd hXl
      by_cases hlt : j < l.length
      · have hjX : j < X.length := by have := HXL.out; omega
        have hXj : X[j] = l[j] := by
          have := congrArg (·[0]?) HXD.out
          simpa [List.getElem?_drop, List.getElem?_eq_getElem, hjX, hlt] using this
        have hsr : Sl wr 81 34 (.slice (some ⟨g, 0, none⟩) X.length cap) X.length (offsC X) := by rw [HXL.out]; exact Sl.of_own hown
        obtain ⟨b, off, hb0, hbs, hld⟩ := hsr.ldA hjX (by omega)
        injection hb0 with hb0
        injection hb0 with hb1 hb2
        subst hb1; subst hb2
        rw [offsC_cut X j hjX, hXj] at hld
        clear hsr hown hfr hXj
        rw [Nat.zero_add] at hld
        go_wp2_with fail
        refine (outstanding_any l[j] _).mono ?_
        rintro e w2 ⟨rfl, hf⟩
        have HF2 := Lib.hid hf
        have HO2 := Lib.hid (own_fr0 (HOr.out.alloc _) hf)
        have hl2 := ((Blk.new wr 81 (offC l[j]).toArray).fr hf (fun h => h)).ldA 0 34 (by simp)
        have hok := own_okA HO2.out (i * 34) 34 (by simp; omega)
        have hsz : wr.heap.size < w2.heap.size := by have := hf.size; simp at this; omega
        have HTK := Lib.hid (show l.take (j + 1) = l.take j ++ [l[j]] by rw [List.take_succ_eq_append_getElem hlt])
        clear hf hld
        cases hio : isOut l[j] with
        | true =>
          have HIO := Lib.hid hio
          clear hio
          go_wp2_with fail
          go_roundw
          case rel =>
            refine ⟨i, j + 1, X, rfl, by go_num, by omega, by omega, HXL.out, ?_, ?_, HO2.out, ?_⟩
            · rw [HTK.out, List.filter_append, ← HXT.out]; simp [notOut, HIO.out]
            · have := congrArg (List.drop 1) HXD.out
              simpa [List.drop_drop, Nat.add_comm] using this
            · exact Fr.trans (HFr.out.alloc _) HF2.out.of0
          case measure => simp [intOf]; omega
        | false =>
          have HIO := Lib.hid hio
          clear hio
          go_wp2_with fail
          go_roundw
          case rel =>
            refine ⟨i + 1, j + 1, X.set i l[j], by go_num, by go_num, by omega, by omega, by simpa using HXL.out, ?_, ?_, ?_, ?_⟩
            · rw [HTK.out, List.filter_append, ← HXT.out, List.take_set, List.take_succ_eq_append_getElem hiX]
              rw [List.set_append_right _ _ (by simp; omega)]
              simp [notOut, HIO.out, Nat.min_eq_left (Nat.le_of_lt hiX)]
            · rw [List.drop_set_of_lt (by omega)]
              have := congrArg (List.drop 1) HXD.out
              simpa [List.drop_drop, Nat.add_comm] using this
            · have := own_put HO2.out (i * 34) (offC l[j]).toArray (by simp; omega)
              rw [offsC_setAt X i hiX l[j]]
              simpa using this
            · exact Fr.put (Fr.trans (HFr.out.alloc _) HF2.out.of0) (fun _ => rfl) _ _
          case measure => simp [intOf]; omega
      · clear hown hfr
        have hjn : j = l.length := by omega
        have hok := own_okA HOr.out (i * 34) ((l.length - i) * 34) (by have := HXL.out; simp; omega)
        obtain ⟨cs, hcs, hrun⟩ := run_clr (P := Try.prog) wr app_off 0 off_clr g (i * 34) (l.length - i) (cap - i) (by have := HXL.out; omega) hok
        have HCS := Lib.hid hcs
        have HJ := Lib.hid hjn
        clear hok hcs hjn
        go_wp2_with fail
        go_ret
        have hXt := HXT.out
        rw [HJ.out, List.take_length] at hXt
        have hlen : (l.filter notOut).length = i := by rw [← hXt, List.length_take]; omega
        rw [hlen]
        have hcs := HCS.out
        have ho := own_put HOr.out (i * 34) cs (by have := HXL.out; simp; omega)
        have hs := (Sl.of_own ho).cutFront (k := i) (by have := HXL.out; omega)
        rw [List.take_append_of_le_length (by simp; omega), List.take_take, Nat.min_self, offsC_take, hXt] at hs
        exact ⟨rfl, hs, Fr.put HFr.out (fun _ => rfl) _ _⟩

end Go.Proofs.Ytbcconeebjmjdaa
