/- SHA-256: Digest.String; the law's known. No condition. -/
import Derived.Test.YtnholkjgdpapbaaShaH
import Derived.Test.YtnholkjgdpapbaaHex
import Derived.Lib.SlBytesConst
namespace Go.Proofs.Ytnholkjgdpapbaa
set_option linter.unusedVariables false
set_option linter.unusedSimpArgs false
set_option maxRecDepth 10000
open Go.RowKit
attribute [local go_sem ↓] Go.wp_at_zero Go.wp_at_succ

abbrev digV (d : By 32) : Value := .agg (bs d.1).toArray
theorem rd_mark {w : World} {b : Nat} {t : TypeId} {l : List UInt8} {fz : Nat × Nat} (h : w.heap[b]? = some (Obj.cells (bs l).toArray t fz)) (n : Nat) (hn : l.length = n) (hm : n ≤ maxLen) : Rd w (b + 1) (.slice (some ⟨b, 0, none⟩) n n) l := by
  subst hn
  refine ⟨some ⟨b, 0, none⟩, l.length, rfl, Nat.le_refl _, hm, fun _ => ⟨b, 0, rfl, Nat.lt_succ_self _, fun j x hj => ?_⟩⟩
  simp [World.cell?, h, bs, hj]

theorem hex_m0 : (⟨(hexL (sumB [])).toArray⟩ : ByteArray) = ⟨#[101, 51, 98, 48, 99, 52, 52, 50, 57, 56, 102, 99, 49, 99, 49, 52, 57, 97, 102, 98, 102, 52, 99, 56, 57, 57, 54, 102, 98, 57, 50, 52, 50, 55, 97, 101, 52, 49, 101, 52, 54, 52, 57, 98, 57, 51, 52, 99, 97, 52, 57, 53, 57, 57, 49, 98, 55, 56, 53, 50, 98, 56, 53, 53]⟩ := by
  rw [sum_nil]; decide +kernel
theorem sum_m1 : sumB [97, 98, 99] = [186, 120, 22, 191, 143, 1, 207, 234, 65, 65, 64, 222, 93, 174, 34, 35, 176, 3, 97, 163, 150, 23, 122, 156, 180, 16, 255, 97, 242, 0, 21, 173] := by decide +kernel
theorem hex_m1 : (⟨(hexL (sumB [97, 98, 99])).toArray⟩ : ByteArray) = ⟨#[98, 97, 55, 56, 49, 54, 98, 102, 56, 102, 48, 49, 99, 102, 101, 97, 52, 49, 52, 49, 52, 48, 100, 101, 53, 100, 97, 101, 50, 50, 50, 51, 98, 48, 48, 51, 54, 49, 97, 51, 57, 54, 49, 55, 55, 97, 57, 99, 98, 52, 49, 48, 102, 102, 54, 49, 102, 50, 48, 48, 49, 53, 97, 100]⟩ := by
  rw [sum_m1]; decide +kernel
theorem lit_m1 (w : World) : (bsl 22 3 #[(0, .int .u8 97), (1, .int .u8 98), (2, .int .u8 99)]).run Try.prog w = .ok (.slice (some ⟨w.heap.size, 0, none⟩) 3 3) (w.alloc (.cells (bs [97, 98, 99]).toArray 5)) := by kernel_rfl
theorem sum_m2 : sumB [97, 98, 99, 100, 98, 99, 100, 101, 99, 100, 101, 102, 100, 101, 102, 103, 101, 102, 103, 104, 102, 103, 104, 105, 103, 104, 105, 106, 104, 105, 106, 107, 105, 106, 107, 108, 106, 107, 108, 109, 107, 108, 109, 110, 108, 109, 110, 111, 109, 110, 111, 112, 110, 111, 112, 113] = [36, 141, 106, 97, 210, 6, 56, 184, 229, 192, 38, 147, 12, 62, 96, 57, 163, 60, 228, 89, 100, 255, 33, 103, 246, 236, 237, 212, 25, 219, 6, 193] := by decide +kernel
theorem hex_m2 : (⟨(hexL (sumB [97, 98, 99, 100, 98, 99, 100, 101, 99, 100, 101, 102, 100, 101, 102, 103, 101, 102, 103, 104, 102, 103, 104, 105, 103, 104, 105, 106, 104, 105, 106, 107, 105, 106, 107, 108, 106, 107, 108, 109, 107, 108, 109, 110, 108, 109, 110, 111, 109, 110, 111, 112, 110, 111, 112, 113])).toArray⟩ : ByteArray) = ⟨#[50, 52, 56, 100, 54, 97, 54, 49, 100, 50, 48, 54, 51, 56, 98, 56, 101, 53, 99, 48, 50, 54, 57, 51, 48, 99, 51, 101, 54, 48, 51, 57, 97, 51, 51, 99, 101, 52, 53, 57, 54, 52, 102, 102, 50, 49, 54, 55, 102, 54, 101, 99, 101, 100, 100, 52, 49, 57, 100, 98, 48, 54, 99, 49]⟩ := by
  rw [sum_m2]; decide +kernel
theorem lit_m2 (w : World) : (bsl 22 56 #[(0, .int .u8 97), (1, .int .u8 98), (2, .int .u8 99), (3, .int .u8 100), (4, .int .u8 98), (5, .int .u8 99), (6, .int .u8 100), (7, .int .u8 101), (8, .int .u8 99), (9, .int .u8 100), (10, .int .u8 101), (11, .int .u8 102), (12, .int .u8 100), (13, .int .u8 101), (14, .int .u8 102), (15, .int .u8 103), (16, .int .u8 101), (17, .int .u8 102), (18, .int .u8 103), (19, .int .u8 104), (20, .int .u8 102), (21, .int .u8 103), (22, .int .u8 104), (23, .int .u8 105), (24, .int .u8 103), (25, .int .u8 104), (26, .int .u8 105), (27, .int .u8 106), (28, .int .u8 104), (29, .int .u8 105), (30, .int .u8 106), (31, .int .u8 107), (32, .int .u8 105), (33, .int .u8 106), (34, .int .u8 107), (35, .int .u8 108), (36, .int .u8 106), (37, .int .u8 107), (38, .int .u8 108), (39, .int .u8 109), (40, .int .u8 107), (41, .int .u8 108), (42, .int .u8 109), (43, .int .u8 110), (44, .int .u8 108), (45, .int .u8 109), (46, .int .u8 110), (47, .int .u8 111), (48, .int .u8 109), (49, .int .u8 110), (50, .int .u8 111), (51, .int .u8 112), (52, .int .u8 110), (53, .int .u8 111), (54, .int .u8 112), (55, .int .u8 113)]).run Try.prog w = .ok (.slice (some ⟨w.heap.size, 0, none⟩) 56 56) (w.alloc (.cells (bs [97, 98, 99, 100, 98, 99, 100, 101, 99, 100, 101, 102, 100, 101, 102, 103, 101, 102, 103, 104, 102, 103, 104, 105, 103, 104, 105, 106, 104, 105, 106, 107, 105, 106, 107, 108, 106, 107, 108, 109, 107, 108, 109, 110, 108, 109, 110, 111, 109, 110, 111, 112, 110, 111, 112, 113]).toArray 5)) := by kernel_rfl
theorem run_eql_str (w : World) (s : ByteArray) : (binOp .eql 9 (.string s) (.string s)).run Try.prog w = .ok (.bool true) w := by
  have h : (s == s) = true := (ba_beq s s).2 rfl
  show Sem.run _ (Op.stringOp .eql s s) w = _
  simp [Op.stringOp, h]
end Go.Proofs.Ytnholkjgdpapbaa
