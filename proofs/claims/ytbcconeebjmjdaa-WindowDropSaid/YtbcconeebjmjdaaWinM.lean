/- Chapter 36: what the operations keep (plain laws); operations that come in as a slice; WindowBound: the walk. No condition. -/
import Derived.Test.YtbcconeebjmjdaaWinL
import Derived.Test.YtbcconeebjmjdaaRows
namespace Go.Proofs.Ytbcconeebjmjdaa
open Go.RowKit
attribute [local go_sem ↓] Go.wp_at_zero Go.wp_at_succ

theorem setOc_cases (l : List Off) (id : By 32) (n : Int) (o : Off) (h : l.find? (hasId id) = some o) : ∃ k, ∃ (hk : k < l.length), l[k] = o ∧ setOc l id n = l.set k { o with oc := n } ∧ idx (hasId id) l = (k : Int) := by
  obtain ⟨k, hk, hi, ho, _, _⟩ := idx_pos _ _ _ h
  exact ⟨k, hk, ho, by rw [setOc_eq l id n k hk hi, ho], hi⟩
theorem filter_set_le {α : Type} (p : α → Bool) (l : List α) (k : Nat) (hk : k < l.length) (x : α) (h : p x = true → p l[k] = true) : ((l.set k x).filter p).length ≤ (l.filter p).length := by
  induction l generalizing k with
  | nil => simp at hk
  | cons a l ih =>
    cases k with
    | zero =>
      simp only [List.set_cons_zero, List.filter_cons]
      simp only [List.getElem_cons_zero] at h
      cases hx : p x with
      | true => simp [h hx]
      | false => simp; split <;> simp
    | succ k =>
      have := ih k (by simpa using hk) (by simpa using h)
      simp only [List.set_cons_succ, List.filter_cons]
      split <;> simp [this]

theorem perform_inv (m : Win) (o : OpM) (h : Inv m) : Inv (performW m o).1 := by
  unfold performW offerW answerW resizeW
  split
  · dsimp only
    split
    · split
      · exact h
      · split
        · exact h
        · refine ⟨h.s1, h.s2, fun x hx => ?_⟩
          simp only [List.mem_append, List.mem_singleton] at hx
          rcases hx with hx | rfl
          · exact h.oc x hx
          · simp
    · exact h
  · split
    · dsimp only
      split
      · exact h
      · rename_i x hx
        split
        · rename_i hn
          split
          · obtain ⟨k, hk, hl, hs, _⟩ := setOc_cases m.l o.id o.n x hx
            refine ⟨h.s1, h.s2, fun y hy => ?_⟩
            dsimp only at hy
            rw [hs] at hy
            rcases List.mem_or_eq_of_mem_set hy with hy | rfl
            · exact h.oc y hy
            · dsimp only; omega
          · exact h
        · exact h
    · split
      · exact ⟨h.s1, h.s2, fun x hx => h.oc x (List.mem_of_mem_drop hx)⟩
      · split
        · exact ⟨h.s1, h.s2, fun x hx => h.oc x (List.mem_filter.1 hx).1⟩
        · dsimp only
          split
          · exact ⟨by dsimp only; omega, by dsimp only; omega, h.oc⟩
          · exact h

theorem perform_len (m : Win) (o : OpM) : (performW m o).1.l.length ≤ m.l.length + 1 := by
  unfold performW offerW answerW resizeW
  split
  · dsimp only
    split
    · split
      · simp
      · split
        · simp
        · simp
    · simp
  · split
    · dsimp only
      split
      · simp
      · rename_i x hx
        split
        · split
          · obtain ⟨k, hk, hl, hs, _⟩ := setOc_cases m.l o.id o.n x hx
            dsimp only
            rw [hs]; simp
          · simp
        · simp
    · split
      · dsimp only; simp; omega
      · split
        · have := List.length_filter_le notOut m.l
          dsimp only; omega
        · dsimp only
          split <;> simp

theorem perform_size (m : Win) (o : OpM) (h : o.kind.toNat % 5 ≠ 4) : (performW m o).1.size = m.size := by
  unfold performW offerW answerW
  split
  · dsimp only
    split
    · split
      · rfl
      · split <;> rfl
    · rfl
  · split
    · dsimp only
      split
      · rfl
      · split
        · split <;> rfl
        · rfl
    · split
      · rfl
      · split
        · rfl
        · omega

theorem outs_len (l : List Off) : (outs l).length = (l.filter isOut).length := by simp [outs]
theorem poss_out {i j : Int} (h : poss i j = true) : i = 0 ∨ i = 1 := by
  unfold poss at h
  simp only [decide_eq_true_eq] at h
  omega
theorem perform_outs (m : Win) (o : OpM) (h : o.kind.toNat % 5 ≠ 4) (ho : ((outs m.l).length : Int) ≤ m.size) : ((outs (performW m o).1.l).length : Int) ≤ m.size := by
  unfold performW offerW answerW
  split
  · dsimp only
    split
    · split
      · exact ho
      · split
        · exact ho
        · dsimp only
          rw [outs_snoc]
          simp only [isOut, List.length_append]
          simp
          omega
    · exact ho
  · split
    · dsimp only
      split
      · exact ho
      · rename_i x hx
        split
        · split
          · rename_i hp
            obtain ⟨k, hk, hl, hs, _⟩ := setOc_cases m.l o.id o.n x hx
            dsimp only
            rw [hs]
            have := filter_set_le isOut m.l k hk { x with oc := o.n } (fun _ => by rw [hl]; simp only [isOut, decide_eq_true_eq]; exact poss_out hp)
            rw [outs_len] at ho ⊢
            omega
          · exact ho
        · exact ho
    · split
      · have := ((List.drop_sublist (nset m.l) m.l).filter isOut).length_le
        rw [outs_len] at ho ⊢
        dsimp only; omega
      · split
        · have : (m.l.filter notOut).filter isOut = [] := by
            rw [List.filter_filter]
            simp [notOut]
          rw [outs_len] at ho ⊢
          dsimp only
          rw [this]; simp; omega
        · omega

instance : Inhabited OpM := ⟨⟨0, ⟨List.replicate 32 0, by simp⟩, 0⟩⟩
theorem open_op {H : Type} {enc : TypeId × Value → H} {w : World} {base : Nat} {spare : Nat → Bool} {held : Bool} {fuel : Nat} {cs : List Value} {x : DataW H × List MemPlace} (h : DataW.trod enc Try.prog w base spare held fuel 51 cs = some x) : ∃ o : OpM, cs = opC o := by
  obtain ⟨y0, y1, y2, n, _, hl, h0, h1, h2⟩ := Go.Deep.trod_struct3 Try.underlying51 h
  obtain ⟨k, hk⟩ := open_u8 Try.underlying5 h0
  obtain ⟨i, hi⟩ := open_byN Try.underlying37 Try.underlying5 (by kernel_rfl) (by kernel_rfl) h1
  obtain ⟨m, hm, _, _⟩ := DataW.trod_int Try.underlying3 h2
  refine ⟨⟨k, i, m⟩, ?_⟩
  have hl' : cs.length = 34 := hl
  have hk' : (cs.drop 0).take 1 = [u8 k] := hk
  have hi' : (cs.drop 1).take 32 = bs i.1 := hi
  have hm' : (cs.drop 33).take 1 = [.int .i64 m] := hm
  have e : cs = (cs.drop 0).take 1 ++ ((cs.drop 1).take 32 ++ (cs.drop 33).take 1) := by
    apply List.ext_getElem
    · simp; omega
    · intro j h1 h2
      simp only [List.getElem_append, List.getElem_take, List.getElem_drop, List.length_take, List.length_drop]
      split
      · congr 1; omega
      · split
        · congr 1; omega
        · congr 1; omega
  rw [e, hk', hi', hm']
  rfl

/-- Operation k of the slice. -/
theorem Arg.op {w : World} {B : Nat} {A : Option Addr} {c k : Nat} {l : List OpM} (h : Arg w B A l.length c 34 (l.flatMap opC)) (hk : k < l.length) :
    ∃ b off, A = some ⟨b, off, none⟩ ∧ b < B ∧ Proofs.Ytbcconeebjmjdaa.ldA w b (off + k * 34) 34 = some (opC l[k]).toArray ∧ w.cell? ⟨b, off + k * 34, none⟩ = some (u8 l[k].kind) := by
  obtain ⟨b, off, hA, hb, hld⟩ := h.ldA hk (by omega)
  obtain ⟨b', off', hA', _, hx⟩ := h.at_ (by omega)
  rw [hA] at hA'
  simp only [Option.some.injEq, Addr.mk.injEq, and_true] at hA'
  obtain ⟨rfl, rfl⟩ := hA'
  have hcut := flat_cut (sz := 34) opC (fun o => by simp) l k hk
  rw [hcut] at hld
  refine ⟨b, off, hA, hb, hld, hx (k * 34) _ ?_⟩
  have h0 : (opC l[k])[0]? = some (u8 l[k].kind) := rfl
  rw [← hcut, List.getElem?_take, if_pos (by omega), List.getElem?_drop] at h0
  simpa using h0

/-- '1 + int(uint(a) % 64)', word by word. -/
theorem size_facts (a : Int) : ∃ z y s : Int, IntKind.u64.wrap a = z ∧ z.tmod 64 = y ∧ IntKind.u64.wrap y = y ∧ IntKind.i64.wrap y = y ∧ IntKind.i64.wrap (1 + y) = s ∧ 1 ≤ s ∧ s ≤ 64 := by
  have hz := bounds_u64 (wf_wrap .u64 a)
  have hy : (IntKind.u64.wrap a).tmod 64 = (IntKind.u64.wrap a) % 64 := Int.tmod_eq_emod_of_nonneg hz.1
  refine ⟨_, _, 1 + (IntKind.u64.wrap a).tmod 64, rfl, rfl, ?_, ?_, ?_, by omega, by omega⟩
  · exact IntWalk.u64_in _ (by omega)
  · exact IntWalk.i64_in _ (by omega)
  · exact IntWalk.i64_in _ (by omega)

set_option maxHeartbeats 2000000 in
theorem bound_walk (a : Int) (l : List OpM) (A : Option Addr) (c : Nat) (w : World) (ha : Arg w w.heap.size A l.length c 34 (l.flatMap opC)) :
    Calls Try.prog 5 #[.int .i64 a, .slice A l.length c] w fun e w' => e = .returned (.bool true) ∧ Below w.heap.size w w' := by
  have hlc := ha.cap
  have hcm := ha.max
  unfold maxLen at hcm
  have HA := Lib.hid ha
  clear ha
  by_cases h100 : (100 : Int) < (l.length : Int)
  · go_enter Try.func5, Try.ntmps5
    go_wp2_with fail
    refine (known_any _).mono ?_
    rintro e w1 ⟨rfl, hf1⟩
    have HF1 := Lib.hid hf1
    clear hf1
    go_wp2_with fail
    refine (known_any _).mono ?_
    rintro e w2 ⟨rfl, hf2⟩
    have HF2 := Lib.hid hf2
    clear hf2
    go_wp2_with fail
    go_ret
    exact ⟨rfl, Fr0.below (HF1.out.trans HF2.out)⟩
  · obtain ⟨z, y, s, h1, h2, h3, h4, h5, hs1, hs2⟩ := size_facts a
    go_enter Try.func5, Try.ntmps5
    go_wp2_with fail
    refine (known_any _).mono ?_
    rintro e w1 ⟨rfl, hf1⟩
    have HF1 := Lib.hid hf1
    clear hf1
    go_wp2_with fail
    refine (new_yes s _ ⟨hs1, hs2⟩).mono ?_
    rintro e w2 ⟨g, rfl, hg, hW, hf2⟩
    have HB2 := Lib.hid (Fr0.below (HF1.out.trans hf2))
    have HW2 := Lib.hid hW
    have HG := Lib.hid (show w.heap.size ≤ g from Nat.le_trans HF1.out.size hg)
    clear hf2 hW hg h1 h2 h3 h4 h5
    go_wp2_with fail
    go_loopw [7] (fun iv wr => ∃ (i : Nat) (m : Win), i ≤ l.length ∧ iv = .int .i64 i ∧ WinAt wr g m ∧ Inv m ∧ m.size = s ∧ ((outs m.l).length : Int) ≤ s ∧ m.l.length ≤ i ∧ Below w.heap.size w wr) (fun i _ => l.length - (intOf i).toNat)
    case atStart => exact ⟨0, ⟨s, []⟩, by omega, rfl, HW2.out, ⟨hs1, hs2, by simp⟩, rfl, by simp [outs]; omega, by simp, HB2.out⟩
    case round =>
      obtain ⟨i, m, hi, rfl, hW, hI, hms, ho, hml, hB⟩ := hrel
      have HW := Lib.hid hW
      have HI := Lib.hid hI
      have HB := Lib.hid hB
      have HO := Lib.hid ho
      have HMS := Lib.hid hms
      clear hW hI hB ho hms
      by_cases hlt : i < l.length
      · obtain ⟨b, off, rfl, hb, hld, hck⟩ := (HA.out.below HB.out).op hlt
        have hrun := fun w => run_rem5 w l[i].kind
        obtain ⟨r, hr5, hr⟩ : ∃ r, r < 5 ∧ l[i].kind.toNat % 5 = r := ⟨l[i].kind.toNat % 5, by omega, rfl⟩
        rw [hr] at hrun
        have HR := Lib.hid hr
        clear hr
        by_cases h4 : r = 4
        · subst h4
          go_wp2_with fail
          go_roundw
          case rel => exact ⟨i + 1, m, by omega, by go_num, HW.out, HI.out, HMS.out, HO.out, by omega, HB.out⟩
          case measure => simp [intOf]; omega
        · have hb4 : ((r : Int) == 4) = false := by simp; omega
          go_wp2_with fail
          refine (perform_any g m l[i] _ HW.out HI.out (by omega)).mono ?_
          rintro e w5 ⟨r1, r2, rfl, -, -, hW5, hf5⟩
          have hms := HMS.out
          have ho5 := perform_outs m l[i] (by rw [HR.out]; exact h4) (by have := HO.out; omega)
          have hm5 := perform_size m l[i] (by rw [HR.out]; exact h4)
          have hl5 := perform_len m l[i]
          have hi5 := perform_inv m l[i] HI.out
          generalize hgm : (performW m l[i]).1 = m5 at hW5 ho5 hm5 hl5 hi5
          have HW5 := Lib.hid hW5
          have HI5 := Lib.hid hi5
          have HB5 := Lib.hid (HB.out.trans (Fr1.belowB hf5 HB.out.size HG.out))
          have hl5' : m5.l.length ≤ i + 1 := by omega
          have ho5' : ((outs m5.l).length : Int) ≤ s := by omega
          have hm5' : m5.size = s := by omega
          have hroom : max 0 (m5.size - ((outs m5.l).length : Int)) = s - ((outs m5.l).length : Int) := by omega
          have hwrap : IntKind.i64.wrap (s - ((outs m5.l).length : Int)) = s - ((outs m5.l).length : Int) := IntWalk.i64_in _ (by omega)
          have hgt : ¬ s < ((outs m5.l).length : Int) := by omega
          clear hrun hms hm5 hl5 hi5 hW5 hf5 hgm ho5 hld hck
          go_wp2_with fail
          refine (outstanding_any' g m5 _ HW5.out (by omega)).mono ?_
          rintro e w6 ⟨A6, c6, rfl, -, hf6⟩
          have HW6 := Lib.hid (HW5.out.fr0 hf6)
          have HB6 := Lib.hid (HB5.out.trans (hf6.belowB HB5.out.size))
          clear hf6
          go_wp2_with fail
          refine (room_any g m5 _ HW6.out (by omega) (by omega) (by omega)).mono ?_
          rintro e w7 ⟨rfl, hf7⟩
          have HW7 := Lib.hid (HW6.out.fr0 hf7)
          have HB7 := Lib.hid (HB6.out.trans (hf7.belowB HB6.out.size))
          clear hf7
          rw [hroom]
          clear hroom
          go_wp2_with fail
          refine (outstanding_any' g m5 _ HW7.out (by omega)).mono ?_
          rintro e w8 ⟨A8, c8, rfl, -, hf8⟩
          have HW8 := Lib.hid (HW7.out.fr0 hf8)
          have HB8 := Lib.hid (HB7.out.trans (hf8.belowB HB7.out.size))
          clear hf8
          go_wp2_with fail
          go_roundw
          case rel => exact ⟨i + 1, m5, by omega, by go_num, HW8.out, HI5.out, hm5', ho5', hl5', HB8.out⟩
          case measure => simp [intOf]; omega
      · go_wp2_with fail
        go_ret
        exact ⟨rfl, HB.out⟩
end Go.Proofs.Ytbcconeebjmjdaa
