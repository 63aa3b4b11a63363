/- sha256.Parse. No condition beyond the lengths that are named. -/
import Derived.Test.YtndcofoilglpjaaUnhB
import Derived.Test.YtndcofoilglpjaaHalf
namespace Go.Proofs.Ytndcofoilglpjaa
set_option linter.unusedVariables false
set_option linter.unusedSimpArgs false
open Go.RowKit
attribute [local go_sem ↓] Go.wp_at_zero Go.wp_at_succ

@[go_sem ↓] theorem ex_arrp_dig (x : Value) : Instr.arrayAt 25 x = arrp 25 x := rfl
@[go_sem] theorem run_arrp_dig (w : World) (a : Option Addr) (n c : Nat) (h : 32 ≤ n) : (arrp 25 (.slice a n c)).run Try.prog w = .ok (.pointer a) w := by
  have h' : ¬ n < 32 := by omega
  simp [arrp, Instr.arrayAt, run_underlying Try.underlying25, h']
theorem rd_ldA {w : World} {B : Nat} {A : Option Addr} {n c : Nat} {l : List UInt8} (h : Rd w B (.slice A n c) l) (hn : 0 < l.length) : ∃ b off, A = some ⟨b, off, none⟩ ∧ b < B ∧ b < w.heap.size ∧ ldA w b off l.length = some (bs l).toArray := by
  obtain ⟨b, off, hA, h1, h2, hx⟩ := h.at_ hn
  have := ldA_of_cells (w := w) (b := b) (o := off) (l := bs l) (by simp; omega) (fun j v hv => by
    simp only [bs, List.getElem?_map, Option.map_eq_some_iff] at hv
    obtain ⟨y, hy, rfl⟩ := hv
    exact hx j y hy)
  rw [bs_length] at this
  exact ⟨b, off, hA, h1, h2, this⟩

abbrev zero32 : List UInt8 := List.replicate 32 0
theorem parse_long (s : ByteArray) (w : World) (h : 64 < s.size) :
    Calls Try.prog 23 #[.string s] w fun e w' => e = .returned (.tuple #[.agg (bs zero32).toArray, .int .i64 5]) ∧ Fr0 w w' := by
  obtain ⟨Z, hZ⟩ : ∃ Z, Z = (bs zero32).toArray := ⟨_, rfl⟩
  have hbd : ∀ w, (bd 25 #[]).run Try.prog w = .ok (.agg Z) w := fun w => by rw [hZ]; kernel_rfl
  have hst : ∀ (w : World) (b' p : Nat), okA w b' p 32 = true → (st 25 (.pointer (some ⟨b', p, none⟩)) (.agg Z)).run Try.prog w = .ok () (putW w b' p Z) := by rw [hZ]; exact dig_st ⟨zero32, by simp⟩
  have hsz : Z.size = 32 := by rw [hZ]; simp
  rw [← hZ]
  clear hZ
  have z0 : (64 : Int) < (s.size : Int) := by omega
  go_enter Try.func23, Try.ntmps23
  go_wp2_with fail
  refine bodyPost_agg2 (n := 32) (cs := Z) rfl Try.underlying25 rfl info_bulletin_sha256_Digest (by rfl) ?_ rfl ?_
  · simp [hsz]
  · exact ⟨rfl, by first | exact (Fr.refl _ _).alloc _ | (simp only [putW_new]; exact (Fr.refl _ _).alloc _) | (trace_state; fail)⟩
theorem parse_short (s : ByteArray) (w : World) (h : s.size < 64) :
    Calls Try.prog 23 #[.string s] w fun e w' => e = .returned (.tuple #[.agg (bs zero32).toArray, .int .i64 4]) ∧ Fr0 w w' := by
  obtain ⟨Z, hZ⟩ : ∃ Z, Z = (bs zero32).toArray := ⟨_, rfl⟩
  have hbd : ∀ w, (bd 25 #[]).run Try.prog w = .ok (.agg Z) w := fun w => by rw [hZ]; kernel_rfl
  have hst : ∀ (w : World) (b' p : Nat), okA w b' p 32 = true → (st 25 (.pointer (some ⟨b', p, none⟩)) (.agg Z)).run Try.prog w = .ok () (putW w b' p Z) := by rw [hZ]; exact dig_st ⟨zero32, by simp⟩
  have hsz : Z.size = 32 := by rw [hZ]; simp
  rw [← hZ]
  clear hZ
  have z0 : (s.size : Int) < 64 := by omega
  have z1 : ¬ (64 : Int) < (s.size : Int) := by omega
  go_enter Try.func23, Try.ntmps23
  go_wp2_with fail
  refine bodyPost_agg2 (n := 32) (cs := Z) rfl Try.underlying25 rfl info_bulletin_sha256_Digest (by rfl) ?_ rfl ?_
  · simp [hsz]
  · exact ⟨rfl, by first | exact (Fr.refl _ _).alloc _ | (simp only [putW_new]; exact (Fr.refl _ _).alloc _) | (trace_state; fail)⟩
theorem parse_any (s : ByteArray) (w : World) (h : s.size = 64) :
    Calls Try.prog 23 #[.string s] w fun e w' =>
      ((IsHex s.data.toList ∧ e = .returned (.tuple #[.agg (bs (upTo s.data.toList 32)).toArray, .int .i64 0])) ∨ (¬ IsHex s.data.toList ∧ e = .returned (.tuple #[.agg (bs zero32).toArray, .int .i64 3]))) ∧ Fr0 w w' := by
  obtain ⟨Z, hZ⟩ : ∃ Z, Z = (bs zero32).toArray := ⟨_, rfl⟩
  have hbd : ∀ w, (bd 25 #[]).run Try.prog w = .ok (.agg Z) w := fun w => by rw [hZ]; kernel_rfl
  have hst : ∀ (w : World) (b' p : Nat), okA w b' p 32 = true → (st 25 (.pointer (some ⟨b', p, none⟩)) (.agg Z)).run Try.prog w = .ok () (putW w b' p Z) := by rw [hZ]; exact dig_st ⟨zero32, by simp⟩
  have hsz : Z.size = 32 := by rw [hZ]; simp
  rw [← hZ]
  have z0 : ¬ (64 : Int) < (s.size : Int) := by omega
  have z1 : ¬ (s.size : Int) < 64 := by omega
  have hz := Blk.new w 25 Z
  have hzl : (bs zero32).toArray = #[Value.int IntKind.u8 0, Value.int IntKind.u8 0, Value.int IntKind.u8 0, Value.int IntKind.u8 0, Value.int IntKind.u8 0, Value.int IntKind.u8 0, Value.int IntKind.u8 0, Value.int IntKind.u8 0, Value.int IntKind.u8 0, Value.int IntKind.u8 0, Value.int IntKind.u8 0, Value.int IntKind.u8 0, Value.int IntKind.u8 0, Value.int IntKind.u8 0, Value.int IntKind.u8 0, Value.int IntKind.u8 0, Value.int IntKind.u8 0, Value.int IntKind.u8 0, Value.int IntKind.u8 0, Value.int IntKind.u8 0, Value.int IntKind.u8 0, Value.int IntKind.u8 0, Value.int IntKind.u8 0, Value.int IntKind.u8 0, Value.int IntKind.u8 0, Value.int IntKind.u8 0, Value.int IntKind.u8 0, Value.int IntKind.u8 0, Value.int IntKind.u8 0, Value.int IntKind.u8 0, Value.int IntKind.u8 0, Value.int IntKind.u8 0] := by rfl
  have HZ := Lib.hid hZ
  have HS := Lib.hid h
  have hF0 := (Fr.refl (fun _ => False) w).alloc (.cells Z 25)
  rw [hZ, hzl] at hz hF0
  obtain ⟨w1, hw1⟩ : ∃ w1, w1 = w.alloc (.cells #[Value.int IntKind.u8 0, Value.int IntKind.u8 0, Value.int IntKind.u8 0, Value.int IntKind.u8 0, Value.int IntKind.u8 0, Value.int IntKind.u8 0, Value.int IntKind.u8 0, Value.int IntKind.u8 0, Value.int IntKind.u8 0, Value.int IntKind.u8 0, Value.int IntKind.u8 0, Value.int IntKind.u8 0, Value.int IntKind.u8 0, Value.int IntKind.u8 0, Value.int IntKind.u8 0, Value.int IntKind.u8 0, Value.int IntKind.u8 0, Value.int IntKind.u8 0, Value.int IntKind.u8 0, Value.int IntKind.u8 0, Value.int IntKind.u8 0, Value.int IntKind.u8 0, Value.int IntKind.u8 0, Value.int IntKind.u8 0, Value.int IntKind.u8 0, Value.int IntKind.u8 0, Value.int IntKind.u8 0, Value.int IntKind.u8 0, Value.int IntKind.u8 0, Value.int IntKind.u8 0, Value.int IntKind.u8 0, Value.int IntKind.u8 0] 25) := ⟨_, rfl⟩
  rw [← hw1] at hz hF0
  have HB := Lib.hid hz
  have HF := Lib.hid hF0
  have HW := Lib.hid hw1
  clear hZ h hz hF0 hw1 hzl
  go_enter Try.func23, Try.ntmps23
  go_wp2_with fail
  rw [← HW.out]
  refine (unhex_any s w1 (by have := HS.out; omega)).mono ?_
  rintro e w2 ⟨⟨A, c, hx, rfl, hown⟩ | ⟨hx, rfl⟩, hf⟩
  · have h32 : s.size / 2 = 32 := by have := HS.out; omega
    rw [h32] at hown
    have hlx := upTo_length s.data.toList 32
    obtain ⟨b, off, rfl, -, hlt, hld⟩ := rd_ldA (Sl.rd (Sl.of_own (show w2.ownsRow w1.heap.size 5 1 (.slice A 32 c) (upTo s.data.toList 32).length (bs (upTo s.data.toList 32)) from by rw [hlx]; exact hown))) (by rw [hlx]; omega)
    rw [hlx] at hld
    rw [h32]
    have hst2 : ∀ (w : World) (b' p : Nat), okA w b' p 32 = true → (st 25 (.pointer (some ⟨b', p, none⟩)) (.agg (bs (upTo s.data.toList 32)).toArray)).run Try.prog w = .ok () (putW w b' p (bs (upTo s.data.toList 32)).toArray) := dig_st ⟨upTo s.data.toList 32, hlx⟩
    have hsz2 : (bs (upTo s.data.toList 32)).toArray.size = 32 := by simp
    have hB2 := HB.out.fr hf (fun h => h)
    have hok := hB2.okA 0 32 (by simp)
    have hput := ldA_put hB2 (bs (upTo s.data.toList 32)).toArray hsz2 rfl
    obtain ⟨Y, hY⟩ : ∃ Y, Y = (bs (upTo s.data.toList 32)).toArray := ⟨_, rfl⟩
    rw [← hY] at hst2 hsz2 hld hput
    have HY := Lib.hid hY
    have HF2 := Lib.hid (HF.out.trans hf)
    have HP := Lib.hid hput
    have HX := Lib.hid hx
    clear hown hlx hbd hst hB2 hput hf hY
    go_wp2_with fail
    refine bodyPost_agg2 (n := 32) (cs := Y) rfl Try.underlying25 rfl info_bulletin_sha256_Digest (by rfl) ?_ rfl ?_
    · exact HP.out
    · exact ⟨.inl ⟨HX.out, by rw [← HY.out]; rfl⟩, HF2.out.put (S := fun _ => False) (fun h => by omega) _ _⟩
  · have hB2 := HB.out.fr hf (fun h => h)
    have hok := hB2.okA 0 32 (by simp)
    have hput := ldA_put hB2 Z hsz rfl
    have HF2 := Lib.hid (HF.out.trans hf)
    have HP := Lib.hid hput
    have HX := Lib.hid hx
    clear hB2 hput hf
    go_wp2_with fail
    refine bodyPost_agg2 (n := 32) (cs := Z) rfl Try.underlying25 rfl info_bulletin_sha256_Digest (by rfl) ?_ rfl ?_
    · exact HP.out
    · exact ⟨.inr ⟨HX.out, rfl⟩, HF2.out.put (S := fun _ => False) (fun h => by omega) _ _⟩
end Go.Proofs.Ytndcofoilglpjaa
