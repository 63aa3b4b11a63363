/- Chapter 05: the laws' cut; Sha256Nil, Sha256Sum, Sha256Half: walks. No condition. -/
import Derived.Test.YtnholkjgdpapbaaKnw5
import Derived.Test.YtnholkjgdpapbaaRows
import Derived.Laws.IdiomStrings
namespace Go.Proofs.Ytnholkjgdpapbaa
set_option linter.unusedVariables false
set_option linter.unusedSimpArgs false
set_option maxRecDepth 10000
open Go.RowKit
attribute [local go_sem ↓] Go.wp_at_zero Go.wp_at_succ

def u8C (x : UInt8) : List Value := [u8 x]
@[simp] theorem u8C_length (x : UInt8) : (u8C x).length = 1 := rfl
theorem flat_u8 (l : List UInt8) : l.flatMap u8C = bs l := by
  induction l with
  | nil => rfl
  | cons x l ih => simp only [List.flatMap_cons, ih, u8C, bs, List.map_cons, List.singleton_append]
theorem open_u8C {H : Type} {enc : TypeId × Value → H} {w : World} {base : Nat} {spare : Nat → Bool} {held : Bool} {fuel : Nat} {cs : List Value} {x : DataW H × List MemPlace} (h : DataW.trod enc Try.prog w base spare held fuel 5 cs = some x) : ∃ o : UInt8, cs = u8C o :=
  open_u8 Try.underlying5 h
theorem arg_rd {w : World} {B : Nat} {A : Option Addr} {n c : Nat} {l : List UInt8} (h : Arg w B A n c 1 (l.flatMap u8C)) : Rd w B (.slice A n c) l := by rw [flat_u8] at h; exact h.rd

theorem cut_len (l : List UInt8) : (l.take 500).length ≤ 500 := by rw [List.length_take]; omega

theorem dig_kinds : kindsOf Try.prog 3 103 = some (List.replicate 32 (.int .u8)) := by kernel_rfl
theorem by_fits {n : Nat} (i : By n) : Fits (List.replicate n (.int .u8)) (bs i.1) := by have := Fits.bs i.1; rwa [i.2] at this
theorem sames_by {n : Nat} (a b : By n) : sames (bs a.1) (bs b.1) = decide (a = b) := by
  rw [Bool.eq_iff_iff, sames_eq (by_fits a) (by_fits b), decide_eq_true_eq]
  exact ⟨fun h => Subtype.ext (bs_inj h), fun h => by rw [h]⟩
@[go_sem] theorem run_dig_eq (w : World) (a b : By 32) : (eqv 103 (.agg (bs a.1).toArray) (.agg (bs b.1).toArray)).run Try.prog w = .ok (.bool (decide (a = b))) w := by
  rw [← sames_by]; exact run_eql_flat w 3 dig_kinds (by omega) val_bulletin_sha256_Digest _ _ (by_fits a) (by_fits b)
theorem a32_kinds : kindsOf Try.prog 3 98 = some (List.replicate 32 (.int .u8)) := by kernel_rfl
@[go_sem] theorem run_a32_eq (w : World) (a b : By 32) : (eqv 98 (.agg (bs a.1).toArray) (.agg (bs b.1).toArray)).run Try.prog w = .ok (.bool (decide (a = b))) w := by
  rw [← sames_by]; exact run_eql_flat w 3 a32_kinds (by omega) val__32_uint8 _ _ (by_fits a) (by_fits b)
theorem run_a32_same (w : World) (l : List UInt8) (hl : l.length = 32) : (eqv 98 (.agg (bs l).toArray) (.agg (bs l).toArray)).run Try.prog w = .ok (.bool true) w := by
  have := run_a32_eq w ⟨l, hl⟩ ⟨l, hl⟩; simpa using this
theorem run_dig_same (w : World) (l : List UInt8) (hl : l.length = 32) : (eqv 103 (.agg (bs l).toArray) (.agg (bs l).toArray)).run Try.prog w = .ok (.bool true) w := by
  have := run_dig_eq w ⟨l, hl⟩ ⟨l, hl⟩; simpa using this

theorem rd_string {w : World} {B : Nat} {v : Value} {l : List UInt8} (h : Rd w B v l) : (convert 22 9 v).run Try.prog w = .ok (.string ⟨l.toArray⟩) w := by
  obtain ⟨A, c, rfl, _, _, hr⟩ := h
  rcases Nat.eq_zero_or_pos l.length with h0 | hpos
  · have hn : l = [] := List.eq_nil_of_length_eq_zero h0
    subst hn
    rw [run_convert_bytes_string w _ _ 5 A _ c Try.underlying22 Try.underlying5 Try.underlying9]
    cases A with
    | none => rfl
    | some a => rfl
  · obtain ⟨b, off, rfl, _, hx⟩ := hr hpos
    exact run_convert_bytes_back w _ _ 5 ⟨b, off, none⟩ c l Try.underlying22 Try.underlying5 Try.underlying9 (fun j hj => by rw [Addr.add_mid]; exact hx j _ (List.getElem?_eq_getElem hj))

end Go.Proofs.Ytnholkjgdpapbaa
