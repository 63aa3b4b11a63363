/- Chapter 05: the laws' cut; Sha256Nil, Sha256Sum, Sha256Half: walks. No condition. -/
import Derived.Test.YtndcofoilglpjaaKnw5
import Derived.Test.YtndcofoilglpjaaRows
import Derived.Laws.IdiomStrings
namespace Go.Proofs.Ytndcofoilglpjaa
set_option linter.unusedVariables false
set_option linter.unusedSimpArgs false
open Go.RowKit
attribute [local go_sem ↓] Go.wp_at_zero Go.wp_at_succ

def u8C (x : UInt8) : List Value := [u8 x]
@[simp] theorem u8C_length (x : UInt8) : (u8C x).length = 1 := rfl
theorem flat_u8 (l : List UInt8) : l.flatMap u8C = bs l := by
  induction l with
  | nil => rfl
  | cons x l ih => simp only [List.flatMap_cons, ih, u8C, bs, List.map_cons, List.singleton_append]
theorem open_u8C {H : Type} {enc : TypeId × Value → H} {w : World} {base : Nat} {spare : Nat → Bool} {held : Bool} {fuel : Nat} {cs : List Value} {x : DataW H × List MemPlace} (h : DataW.trod enc Try.prog w base spare held fuel 5 cs = some x) : ∃ o : UInt8, cs = u8C o :=
  open_u8 Try.underlying5 h
theorem arg_rd {w : World} {B : Nat} {A : Option Addr} {n c : Nat} {l : List UInt8} (h : Arg w B A n c 1 (l.flatMap u8C)) : Rd w B (.slice A n c) l := by rw [flat_u8] at h; exact h.rd

/-- cut: the first 500 bytes. -/
theorem cut_any (l : List UInt8) (B : Nat) (A : Option Addr) (n c : Nat) (w : World) (hs : Rd w B (.slice A n c) l) :
    Calls Try.prog 11 #[.slice A n c] w fun e w' => e = .returned (.slice A (l.take 500).length c) ∧ Rd w' B (.slice A (l.take 500).length c) (l.take 500) ∧ w = w' := by
  obtain ⟨A', c', hv, h1, h2⟩ := hs.form
  injection hv with hA hn hc
  subst hA; subst hc; subst hn
  have hlt : (l.take 500).length = min l.length 500 := by rw [List.length_take, Nat.min_comm]
  have HR := Lib.hid (hs.cutFront (min l.length 500) (by omega))
  have hm : min (l.length : Int) 500 = ((min l.length 500 : Nat) : Int) := by omega
  have ht : l.take (min l.length 500) = l.take 500 := by
    rcases Nat.le_total l.length 500 with h | h
    · rw [Nat.min_eq_left h, List.take_length, List.take_of_length_le h]
    · rw [Nat.min_eq_right h]
  rw [ht] at HR
  rw [hlt]
  obtain ⟨m, hmm⟩ : ∃ m, m = min l.length 500 := ⟨_, rfl⟩
  rw [← hmm] at HR hm ⊢
  have hmc : m ≤ c := by omega
  have hml : m ≤ l.length := by omega
  have hm0 : (0 : Int) ≤ (m : Int) := by omega
  clear hs ht hlt hmm
  unfold maxLen at h2
  go_enter Try.func11, Try.ntmps11
  go_wp2_with fail
  all_goals
    go_ret
    refine ⟨?_, HR.out, rfl⟩
    first
    | (rw [show m = 500 by omega]; done)
    | (rw [show m = l.length by omega]; done)
    | (rw [show m = 500 by omega]; rfl)
    | (rw [show m = l.length by omega]; rfl)
theorem cut_len (l : List UInt8) : (l.take 500).length ≤ 500 := by rw [List.length_take]; omega

theorem dig_kinds : kindsOf Try.prog 3 25 = some (List.replicate 32 (.int .u8)) := by kernel_rfl
theorem by_fits {n : Nat} (i : By n) : Fits (List.replicate n (.int .u8)) (bs i.1) := by have := Fits.bs i.1; rwa [i.2] at this
theorem sames_by {n : Nat} (a b : By n) : sames (bs a.1) (bs b.1) = decide (a = b) := by
  rw [Bool.eq_iff_iff, sames_eq (by_fits a) (by_fits b), decide_eq_true_eq]
  exact ⟨fun h => Subtype.ext (bs_inj h), fun h => by rw [h]⟩
@[go_sem] theorem run_dig_eq (w : World) (a b : By 32) : (eqv 25 (.agg (bs a.1).toArray) (.agg (bs b.1).toArray)).run Try.prog w = .ok (.bool (decide (a = b))) w := by
  rw [← sames_by]; exact run_eql_flat w 3 dig_kinds (by omega) val_bulletin_sha256_Digest _ _ (by_fits a) (by_fits b)
theorem a32_kinds : kindsOf Try.prog 3 24 = some (List.replicate 32 (.int .u8)) := by kernel_rfl
@[go_sem] theorem run_a32_eq (w : World) (a b : By 32) : (eqv 24 (.agg (bs a.1).toArray) (.agg (bs b.1).toArray)).run Try.prog w = .ok (.bool (decide (a = b))) w := by
  rw [← sames_by]; exact run_eql_flat w 3 a32_kinds (by omega) val__32_uint8 _ _ (by_fits a) (by_fits b)
theorem run_a32_same (w : World) (l : List UInt8) (hl : l.length = 32) : (eqv 24 (.agg (bs l).toArray) (.agg (bs l).toArray)).run Try.prog w = .ok (.bool true) w := by
  have := run_a32_eq w ⟨l, hl⟩ ⟨l, hl⟩; simpa using this
theorem run_dig_same (w : World) (l : List UInt8) (hl : l.length = 32) : (eqv 25 (.agg (bs l).toArray) (.agg (bs l).toArray)).run Try.prog w = .ok (.bool true) w := by
  have := run_dig_eq w ⟨l, hl⟩ ⟨l, hl⟩; simpa using this

theorem rd_string {w : World} {B : Nat} {v : Value} {l : List UInt8} (h : Rd w B v l) : (convert 22 9 v).run Try.prog w = .ok (.string ⟨l.toArray⟩) w := by
  obtain ⟨A, c, rfl, _, _, hr⟩ := h
  rcases Nat.eq_zero_or_pos l.length with h0 | hpos
  · have hn : l = [] := List.eq_nil_of_length_eq_zero h0
    subst hn
    rw [run_convert_bytes_string w _ _ 5 A _ c Try.underlying22 Try.underlying5 Try.underlying9]
    cases A with
    | none => rfl
    | some a => rfl
  · obtain ⟨b, off, rfl, _, hx⟩ := hr hpos
    exact run_convert_bytes_back w _ _ 5 ⟨b, off, none⟩ c l Try.underlying22 Try.underlying5 Try.underlying9 (fun j hj => by rw [Addr.add_mid]; exact hx j _ (List.getElem?_eq_getElem hj))

set_option maxHeartbeats 1000000 in
theorem nil_walk (l : List UInt8) (A : Option Addr) (c : Nat) (w : World) (ha : Arg w w.heap.size A l.length c 1 (l.flatMap u8C)) :
    Calls Try.prog 8 #[.slice A l.length c] w fun e w' => e = .returned (.bool true) ∧ Below w.heap.size w w' := by
  have HR := Lib.hid (arg_rd ha)
  clear ha
  have hbd : ∀ w, (bd 25 #[]).run Try.prog w = .ok (.agg (bs (List.replicate 32 0)).toArray) w := fun w => by kernel_rfl
  have heq := fun w => run_dig_same w (List.replicate 32 0) (by simp)
  obtain ⟨Z, hZ⟩ : ∃ Z, Z = (bs (List.replicate 32 0)).toArray := ⟨_, rfl⟩
  rw [← hZ] at hbd heq
  have HZ := Lib.hid hZ
  clear hZ
  go_enter Try.func8, Try.ntmps8
  go_wp2_with fail
  refine (known_any _).mono ?_
  rintro e w1 ⟨rfl, hf1⟩
  have HF1 := Lib.hid hf1
  clear hf1
  go_wp2_with fail
  refine (cut_any l _ A _ c w1 (HR.out.fr0 HF1.out)).mono ?_
  rintro e w2 ⟨rfl, -, rfl⟩
  go_wp2_with fail
  refine (write_nil _ _).mono ?_
  rintro e w2 ⟨rfl, rfl⟩
  go_wp2_with fail
  refine (hsum_nil _).mono ?_
  rintro e w2 ⟨rfl, hf2⟩
  have HF2 := Lib.hid (HF1.out.trans hf2)
  clear hf2
  rw [← HZ.out]
  go_wp2_with fail
  refine (hlen_nil _).mono ?_
  rintro e w3 ⟨rfl, rfl⟩
  go_wp2_with fail
  refine (hclone_nil _).mono ?_
  rintro e w3 ⟨rfl, rfl⟩
  go_wp2_with fail
  go_ret
  exact ⟨rfl, Fr0.below HF2.out⟩

set_option maxHeartbeats 2000000 in
theorem sum_walk (l : List UInt8) (A : Option Addr) (c : Nat) (w : World) (ha : Arg w w.heap.size A l.length c 1 (l.flatMap u8C)) :
    Calls Try.prog 3 #[.slice A l.length c] w fun e w' => e = .returned (.bool true) ∧ Below w.heap.size w w' := by
  have HR := Lib.hid (arg_rd ha)
  clear ha
  go_enter Try.func3, Try.ntmps3
  go_wp2_with fail
  refine (cut_any l _ A _ c w HR.out).mono ?_
  rintro e w1 ⟨rfl, hr, rfl⟩
  have hl := cut_len l
  obtain ⟨b, hb⟩ : ∃ b, b = l.take 500 := ⟨_, rfl⟩
  rw [← hb] at hr hl ⊢
  have hstr := rd_string hr
  obtain ⟨N, hN⟩ : ∃ N, N = b.length := ⟨_, rfl⟩
  rw [← hN] at hr hstr hl ⊢
  have HRB := Lib.hid hr
  clear hr hN hb
  go_wp2_with fail
  refine (ssum_any b _ _ _ HRB.out (by have := HRB.out.form; obtain ⟨_, _, hv, _⟩ := this; injection hv with _ hn; omega)).mono ?_
  rintro e w2 ⟨rfl, hf2⟩
  have hst := dig_st (sumY b)
  change ∀ (w : World) (b' p : Nat), okA w b' p 32 = true → (st 25 (.pointer (some ⟨b', p, none⟩)) (.agg (bs (sumB b)).toArray)).run Try.prog w = .ok () (putW w b' p (bs (sumB b)).toArray) at hst
  have hsz : (bs (sumB b)).toArray.size = 32 := by simp [sumB_length]
  have heq := fun w => run_a32_same w (sumB b) (sumB_length b)
  have HF2 := Lib.hid hf2
  have HR2 := Lib.hid (HRB.out.fr0 hf2)
  have HD2 := Lib.hid (Blk.new w2 25 (bs (sumB b)).toArray)
  have HNB : Hid (b.length ≤ 500) := Lib.hid (by obtain ⟨_, _, hv, _⟩ := HRB.out; injection hv with _ hn; omega)
  have hstrs := run_eql_str
  clear hf2 hstr
  obtain ⟨D, hD⟩ : ∃ D, D = (bs (sumB b)).toArray := ⟨_, rfl⟩
  rw [← hD] at hst hsz heq HD2 ⊢
  have HDD := Lib.hid hD
  clear hD
  go_wp2_with fail
  go_region_law (first
    | (go_simp; go_at_call 13
       refine (known_any _).mono ?_
       rintro e w4 ⟨rfl, hf4⟩
       have HF4 := Lib.hid (show Fr0 (w2.alloc (.cells D 25)) w4 from ((Fr.refl _ _).drew).trans hf4)
       have hld4 := blk_all (HD2.out.fr HF4.out (fun h => h)) hsz
       have hcv4 := rd_string ((HR2.out.alloc (.cells D 25)).fr0 HF4.out)
       clear hf4)
    | (go_simp; go_at_call 14
       refine (rsum_any b _ _ w4 ((HR2.out.alloc (.cells D 25)).fr0 HF4.out) (by have := HNB.out; omega)).mono ?_
       rintro e w5 ⟨rfl, hf5⟩
       have HF5 := Lib.hid (HF4.out.trans hf5)
       have hld5 := blk_all (HD2.out.fr HF5.out (fun h => h)) hsz
       have hcv5 := rd_string ((HR2.out.alloc (.cells D 25)).fr0 HF5.out)
       rw [← HDD.out]
       clear hf5))
  all_goals
    go_wp2_with fail
    go_ret
    exact ⟨rfl, Fr0.below ((HF2.out.alloc _).trans HF5.out)⟩
end Go.Proofs.Ytndcofoilglpjaa
