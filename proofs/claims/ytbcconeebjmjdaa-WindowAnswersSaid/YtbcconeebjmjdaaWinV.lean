/- Chapter 36: offers, results and operations as values; what the walk's rules say of them. No condition. -/
import Derived.Test.YtbcconeebjmjdaaWinR
namespace Go.Proofs.Ytbcconeebjmjdaa
open Go.RowKit

structure Off where
  id : By 32
  size : Int
  oc : Int
  deriving DecidableEq
structure Res where
  id : By 32
  oc : Int
  deriving DecidableEq
structure OpM where
  kind : UInt8
  id : By 32
  n : Int
def offC (o : Off) : List Value := bs o.id.1 ++ [.int .i64 o.size, .int .i64 o.oc]
def resC (o : Res) : List Value := bs o.id.1 ++ [.int .i64 o.oc]
def opC (o : OpM) : List Value := u8 o.kind :: (bs o.id.1 ++ [.int .i64 o.n])
@[simp] theorem idC_length (i : By 32) : (bs i.1).length = 32 := by simp [i.2]
@[simp] theorem offC_length (o : Off) : (offC o).length = 34 := by simp [offC]
@[simp] theorem resC_length (o : Res) : (resC o).length = 33 := by simp [resC]
@[simp] theorem opC_length (o : OpM) : (opC o).length = 34 := by simp [opC]
@[simp] theorem offC_32 (o : Off) (h : 32 < (offC o).length) : (offC o)[32] = .int .i64 o.size := by simp [offC, List.getElem_append_right]
@[simp] theorem offC_33 (o : Off) (h : 33 < (offC o).length) : (offC o)[33] = .int .i64 o.oc := by simp [offC, List.getElem_append_right]
@[simp] theorem resC_32 (o : Res) (h : 32 < (resC o).length) : (resC o)[32] = .int .i64 o.oc := by simp [resC, List.getElem_append_right]
@[simp] theorem opC_0 (o : OpM) (h : 0 < (opC o).length) : (opC o)[0] = u8 o.kind := rfl
@[simp] theorem opC_33 (o : OpM) (h : 33 < (opC o).length) : (opC o)[33] = .int .i64 o.n := by simp [opC, List.getElem_append_right]
@[simp] theorem offC_id (o : Off) : (offC o).take 32 = bs o.id.1 := by simp [offC]
@[simp] theorem offC_all (o : Off) : (offC o).take 34 = offC o := List.take_of_length_le (by simp)
@[simp] theorem resC_id (o : Res) : (resC o).take 32 = bs o.id.1 := by simp [resC]
@[simp] theorem resC_all (o : Res) : (resC o).take 33 = resC o := List.take_of_length_le (by simp)
@[simp] theorem opC_id (o : OpM) : ((opC o).drop 1).take 32 = bs o.id.1 := by simp [opC]
@[simp] theorem opC_all (o : OpM) : (opC o).take 34 = opC o := List.take_of_length_le (by simp)
@[simp] theorem idC_all (i : By 32) : (bs i.1).take 32 = bs i.1 := List.take_of_length_le (by simp)
theorem bs_one (l : List UInt8) : (bs l).all (·.oneCell') = true := by simp [bs, u8, Value.oneCell']
@[simp] theorem idC_one (i : By 32) : (bs i.1).all (·.oneCell') = true := bs_one _
@[simp] theorem offC_one (o : Off) : (offC o).all (·.oneCell') = true := by simp only [offC, List.all_append, bs_one]; rfl
@[simp] theorem resC_one (o : Res) : (resC o).all (·.oneCell') = true := by simp only [resC, List.all_append, bs_one]; rfl
@[simp] theorem opC_one (o : OpM) : (opC o).all (·.oneCell') = true := by simp only [opC, List.all_cons, List.all_append, bs_one]; rfl

theorem id_kinds : kindsOf Try.prog 3 37 = some (List.replicate 32 (.int .u8)) := by kernel_rfl
theorem id_fits (i : By 32) : Fits (List.replicate 32 (.int .u8)) (bs i.1) := by have := Fits.bs i.1; rwa [i.2] at this
theorem sames_id (a b : By 32) : sames (bs a.1) (bs b.1) = decide (a = b) := by
  rw [Bool.eq_iff_iff, sames_eq (id_fits a) (id_fits b), decide_eq_true_eq]
  exact ⟨fun h => Subtype.ext (bs_inj h), fun h => by rw [h]⟩
@[go_sem] theorem run_id_eq (w : World) (a b : By 32) : (eqv 37 (.agg (bs a.1).toArray) (.agg (bs b.1).toArray)).run Try.prog w = .ok (.bool (decide (a = b))) w := by
  rw [← sames_id]; exact run_eql_flat w 3 id_kinds (by omega) val_bulletin_api_Id _ _ (id_fits a) (id_fits b)
@[go_sem] theorem run_id_ne (w : World) (a b : By 32) : (nev 37 (.agg (bs a.1).toArray) (.agg (bs b.1).toArray)).run Try.prog w = .ok (.bool (!decide (a = b))) w := by
  rw [← sames_id]; exact run_neq_flat w 3 id_kinds (by omega) val_bulletin_api_Id _ _ (id_fits a) (id_fits b)

theorem off_kinds : kindsOf Try.prog 4 81 = some (List.replicate 32 (.int .u8) ++ [.int .i64, .int .i64]) := by kernel_rfl
theorem off_kinds' : kindsOf Try.prog 4 72 = some (List.replicate 32 (.int .u8) ++ [.int .i64, .int .i64]) := by kernel_rfl
theorem off_fits (o : Off) : Fits (List.replicate 32 (.int .u8) ++ [.int .i64, .int .i64]) (offC o) := (id_fits o.id).append (.cons rfl (.cons rfl .nil))
theorem offC_inj {a b : Off} (h : offC a = offC b) : a = b := by
  have h1 : bs a.id.1 = bs b.id.1 := by rw [← offC_id, ← offC_id, h]
  have h2 := List.append_inj_right h (by simp)
  cases a; cases b
  simp at h2
  simp [h2]
  exact Subtype.ext (bs_inj h1)
theorem sames_off (a b : Off) : sames (offC a) (offC b) = decide (a = b) := by
  rw [Bool.eq_iff_iff, sames_eq (off_fits a) (off_fits b), decide_eq_true_eq]
  exact ⟨offC_inj, fun h => by rw [h]⟩
@[go_sem] theorem run_off_eq (w : World) (a b : Off) : (eqv 81 (.agg (offC a).toArray) (.agg (offC b).toArray)).run Try.prog w = .ok (.bool (decide (a = b))) w := by
  rw [← sames_off]; exact run_eql_flat w 4 off_kinds (by omega) val_bulletin_window_offer _ _ (off_fits a) (off_fits b)
@[go_sem] theorem run_off_ne (w : World) (a b : Off) : (nev 81 (.agg (offC a).toArray) (.agg (offC b).toArray)).run Try.prog w = .ok (.bool (!decide (a = b))) w := by
  rw [← sames_off]; exact run_neq_flat w 4 off_kinds (by omega) val_bulletin_window_offer _ _ (off_fits a) (off_fits b)
@[go_sem] theorem run_off_eq' (w : World) (a b : Off) : (eqv 72 (.agg (offC a).toArray) (.agg (offC b).toArray)).run Try.prog w = .ok (.bool (decide (a = b))) w := by
  rw [← sames_off]; exact run_eql_flat w 4 off_kinds' (by omega) val_bulletin_bulletinlaw36_offer _ _ (off_fits a) (off_fits b)

theorem res_kinds : kindsOf Try.prog 4 43 = some (List.replicate 32 (.int .u8) ++ [.int .i64]) := by kernel_rfl
theorem res_fits (o : Res) : Fits (List.replicate 32 (.int .u8) ++ [.int .i64]) (resC o) := (id_fits o.id).append (.cons rfl .nil)
theorem resC_inj {a b : Res} (h : resC a = resC b) : a = b := by
  have h1 : bs a.id.1 = bs b.id.1 := by rw [← resC_id, ← resC_id, h]
  have h2 := List.append_inj_right h (by simp)
  cases a; cases b
  simp at h2
  simp [h2]
  exact Subtype.ext (bs_inj h1)
theorem sames_res (a b : Res) : sames (resC a) (resC b) = decide (a = b) := by
  rw [Bool.eq_iff_iff, sames_eq (res_fits a) (res_fits b), decide_eq_true_eq]
  exact ⟨resC_inj, fun h => by rw [h]⟩
@[go_sem] theorem run_res_ne (w : World) (a b : Res) : (nev 43 (.agg (resC a).toArray) (.agg (resC b).toArray)).run Try.prog w = .ok (.bool (!decide (a = b))) w := by
  rw [← sames_res]; exact run_neq_flat w 4 res_kinds (by omega) val_bulletin_window_Result _ _ (res_fits a) (res_fits b)

/-! Literals. -/
theorem lit_off : structOk Try.prog 81 34 [(0, 32), (32, 1), (33, 1)] = true := by kernel_rfl
theorem lit_off' : structOk Try.prog 72 34 [(0, 32), (32, 1), (33, 1)] = true := by kernel_rfl
theorem lit_res : structOk Try.prog 43 33 [(0, 32), (32, 1)] = true := by kernel_rfl
@[go_sem] theorem run_lit_off (w : World) (id : By 32) (a b : Int) : (bd 81 #[(0, .agg (bs id.1).toArray), (1, .int .i64 a), (2, .int .i64 b)]).run Try.prog w = .ok (.agg (offC ⟨id, a, b⟩).toArray) w := by
  rw [run_bd_ok w lit_off _ (by simp [Consec, Value.cells]) (by simp [partsCells, Value.cells])]
  simp [partsCells, Value.cells, offC]
@[go_sem] theorem run_lit_off' (w : World) (id : By 32) (a : Int) : (bd 72 #[(0, .agg (bs id.1).toArray), (1, .int .i64 a)]).run Try.prog w = .ok (.agg (offC ⟨id, a, 0⟩).toArray) w := by
  rw [run_bd_tail w lit_off' _ (by simp [Consec, Value.cells]) (by simp [partsCells, Value.cells])]
  have h33 : (partsCells #[(0, Value.agg (bs id.1).toArray), (1, .int .i64 a)].toList).size = 33 := by simp [partsCells, Value.cells]
  have hz : zeroTail Try.prog 72 33 = #[.int .i64 0] := by kernel_rfl
  rw [h33, hz]
  simp [partsCells, Value.cells, offC]
@[go_sem] theorem run_lit_res (w : World) (id : By 32) (a : Int) : (bd 43 #[(0, .agg (bs id.1).toArray), (1, .int .i64 a)]).run Try.prog w = .ok (.agg (resC ⟨id, a⟩).toArray) w := by
  rw [run_bd_ok w lit_res _ (by simp [Consec, Value.cells]) (by simp [partsCells, Value.cells])]
  simp [partsCells, Value.cells, resC]
theorem sl_off : sliceOk Try.prog 76 81 34 = true := by kernel_rfl
theorem sl_off' : sliceOk Try.prog 56 72 34 = true := by kernel_rfl
theorem sl_id : sliceOk Try.prog 33 37 32 = true := by kernel_rfl
theorem sl_res : sliceOk Try.prog 30 43 33 = true := by kernel_rfl
@[go_sem] theorem run_sl_off (w : World) (o : Off) : (bsl 76 1 #[(0, .agg (offC o).toArray)]).run Try.prog w = .ok (.slice (some ⟨w.heap.size, 0, none⟩) 1 1) (w.alloc (.cells (offC o).toArray 81)) := by
  rw [run_bsl_ok w sl_off 1 (by omega) (by omega) _ (by simp [Consec, Value.cells]) (by simp [partsCells, Value.cells])]; simp [partsCells, Value.cells]
@[go_sem] theorem run_sl_off' (w : World) (o : Off) : (bsl 56 1 #[(0, .agg (offC o).toArray)]).run Try.prog w = .ok (.slice (some ⟨w.heap.size, 0, none⟩) 1 1) (w.alloc (.cells (offC o).toArray 72)) := by
  rw [run_bsl_ok w sl_off' 1 (by omega) (by omega) _ (by simp [Consec, Value.cells]) (by simp [partsCells, Value.cells])]; simp [partsCells, Value.cells]
@[go_sem] theorem run_sl_id (w : World) (o : By 32) : (bsl 33 1 #[(0, .agg (bs o.1).toArray)]).run Try.prog w = .ok (.slice (some ⟨w.heap.size, 0, none⟩) 1 1) (w.alloc (.cells (bs o.1).toArray 37)) := by
  rw [run_bsl_ok w sl_id 1 (by omega) (by omega) _ (by simp [Consec, Value.cells]) (by simp [partsCells, Value.cells])]; simp [partsCells, Value.cells]
@[go_sem] theorem run_sl_res (w : World) (o : Res) : (bsl 30 1 #[(0, .agg (resC o).toArray)]).run Try.prog w = .ok (.slice (some ⟨w.heap.size, 0, none⟩) 1 1) (w.alloc (.cells (resC o).toArray 43)) := by
  rw [run_bsl_ok w sl_res 1 (by omega) (by omega) _ (by simp [Consec, Value.cells]) (by simp [partsCells, Value.cells])]; simp [partsCells, Value.cells]
@[go_sem] theorem run_sl_res2 (w : World) (o p : Res) : (bsl 30 2 #[(0, .agg (resC o).toArray), (1, .agg (resC p).toArray)]).run Try.prog w = .ok (.slice (some ⟨w.heap.size, 0, none⟩) 2 2) (w.alloc (.cells (resC o ++ resC p).toArray 43)) := by
  rw [run_bsl_ok w sl_res 2 (by omega) (by omega) _ (by simp [Consec, Value.cells]) (by simp [partsCells, Value.cells])]; simp [partsCells, Value.cells]
@[go_sem] theorem run_sl_off0 (w : World) : (bsl 76 0 #[]).run Try.prog w = .ok (.slice (some ⟨w.heap.size, 0, none⟩) 0 0) (w.alloc (.cells #[] 81)) := by kernel_rfl
@[go_sem] theorem run_nil_off (w : World) (a : Option Addr) (n c : Nat) : (binOp .eql 76 (.slice a n c) (.slice none 0 0)).run Try.prog w = .ok (.bool a.isNone) w := by
  rw [Lib.run_eql_slice_nil w _ _ a n c 0 0 Try.underlying76]
theorem app_off : appOk Try.prog 76 81 34 48 = true := by kernel_rfl
theorem app_off' : appOk Try.prog 56 72 34 48 = true := by kernel_rfl
theorem app_id : appOk Try.prog 33 37 32 32 = true := by kernel_rfl
theorem app_res : appOk Try.prog 30 43 33 40 = true := by kernel_rfl
end Go.Proofs.Ytbcconeebjmjdaa
