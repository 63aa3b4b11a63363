/- Rules of the walk for this chapter's aggregates. Written by gen_rules.py. No condition. -/
import Derived.Test.YtjdbfedkadoklaaAggC
import Derived.Test.YtjdbfedkadoklaaOtH
namespace Go.Proofs.Ytjdbfedkadoklaa
set_option linter.unusedVariables false
set_option linter.unusedSimpArgs false
set_option maxRecDepth 10000
open Go.RowKit
theorem info__35_int : (Try.prog.info? 27).map (·.size) = some 35 := by kernel_rfl
@[go_sem ↓] theorem ex_ld__35_int (ρ : Operand → Value) (dst : Option Tmp) (x : Operand) (ty : TypeId) (pos : String) (aft : Array Edge) (gd : Option (Nat × Bool)) :
    execOp ρ ⟨dst, .load 27 x, ty, pos, aft, gd⟩ = (do pure (.value (← ld 27 (ρ x)))) := rfl
@[go_sem] theorem run_ld__35_int (w : World) (b o : Nat) (h : (ldA w b o 35).isSome = true) :
    (ld 27 (.pointer (some ⟨b, o, none⟩))).run Try.prog w = .ok (.agg ((ldA w b o 35).getD #[])) w := run_ld w Try.underlying27 rfl info__35_int b o h
@[go_sem ↓] theorem ex_st__35_int (ρ : Operand → Value) (dst : Option Tmp) (x y : Operand) (ty : TypeId) (pos : String) (aft : Array Edge) (gd : Option (Nat × Bool)) :
    execOp ρ ⟨dst, .store 27 x y, ty, pos, aft, gd⟩ = (do st 27 (ρ x) (ρ y); pure .skip) := rfl
@[go_sem] theorem run_st__35_int (w : World) (b o : Nat) (cs : Array Value) (hs : cs.size = 35) (h1 : cs.all (·.oneCell') = true) (h : okA w b o 35 = true) :
    (st 27 (.pointer (some ⟨b, o, none⟩)) (.agg cs)).run Try.prog w = .ok () (putW w b o cs) := run_st w cs (by rw [info__35_int, hs]) h1 b o (by rw [hs]; exact h)
@[go_sem] theorem run_st1__35_int (w : World) (b o : Nat) (cs : Array Value) (hs : cs.size = 35) (h1 : one1 cs = true) (h : okA w b o 35 = true) :
    (st 27 (.pointer (some ⟨b, o, none⟩)) (.agg cs)).run Try.prog w = .ok () (putW w b o cs) := run_st w cs (by rw [info__35_int, hs]) h1 b o (by rw [hs]; exact h)
@[go_sem ↓] theorem ex_eq__35_int (x y : Value) : binOp .eql 27 x y = eqv 27 x y := rfl
@[go_sem ↓] theorem ex_ne__35_int (x y : Value) : binOp .neq 27 x y = nev 27 x y := rfl
theorem guard__35_int : Try.prog.eqGuardType Try.prog.depth 27 = false := by kernel_rfl
@[go_sem] theorem run_guard__35_int (w : World) (op : BinOp) (x y : Operand) (xs ys : Array Value) : (eqGuard op 27 x y (.agg xs) (.agg ys)).run Try.prog w = .ok () w := run_eqGuard_agg w op _ x y xs ys guard__35_int
theorem val__35_int (cs : List Value) : valOf Try.prog 27 cs = .agg cs.toArray := by simp only [valOf, Try.underlying27]
@[go_sem ↓] theorem ex_bd__35_int (ρ : Operand → Value) (dst : Option Tmp) (ps : Array (Nat × Operand)) (ty : TypeId) (pos : String) (aft : Array Edge) (gd : Option (Nat × Bool)) :
    execOp ρ ⟨dst, .build 27 ps, ty, pos, aft, gd⟩ = (do pure (.value (← bd 27 (ps.map fun (i, x) => (i, ρ x))))) := rfl
@[go_sem ↓] theorem ex_al__35_int (ρ : Operand → Value) (dst : Option Tmp) (ty : TypeId) (pos : String) (aft : Array Edge) (gd : Option (Nat × Bool)) :
    execOp ρ ⟨dst, .alloc 27, ty, pos, aft, gd⟩ = (do pure (.value (← al 27))) := rfl
theorem zt__35_int : (zeroTail Try.prog 27 0).size = 35 := by kernel_rfl
theorem zi__35_int : (match Try.prog.info? 27 with | some i => i.zero.isSome | none => false) = true := by kernel_rfl
@[go_sem] theorem run_al__35_int (w : World) : (al 27).run Try.prog w = .ok (.pointer (some ⟨w.heap.size, 0, none⟩)) (w.alloc (.cells (zeroTail Try.prog 27 0) 27)) := run_al w zi__35_int
theorem info__35__16_uint8 : (Try.prog.info? 51).map (·.size) = some 560 := by kernel_rfl
@[go_sem ↓] theorem ex_ld__35__16_uint8 (ρ : Operand → Value) (dst : Option Tmp) (x : Operand) (ty : TypeId) (pos : String) (aft : Array Edge) (gd : Option (Nat × Bool)) :
    execOp ρ ⟨dst, .load 51 x, ty, pos, aft, gd⟩ = (do pure (.value (← ld 51 (ρ x)))) := rfl
@[go_sem] theorem run_ld__35__16_uint8 (w : World) (b o : Nat) (h : (ldA w b o 560).isSome = true) :
    (ld 51 (.pointer (some ⟨b, o, none⟩))).run Try.prog w = .ok (.agg ((ldA w b o 560).getD #[])) w := run_ld w Try.underlying51 rfl info__35__16_uint8 b o h
@[go_sem ↓] theorem ex_st__35__16_uint8 (ρ : Operand → Value) (dst : Option Tmp) (x y : Operand) (ty : TypeId) (pos : String) (aft : Array Edge) (gd : Option (Nat × Bool)) :
    execOp ρ ⟨dst, .store 51 x y, ty, pos, aft, gd⟩ = (do st 51 (ρ x) (ρ y); pure .skip) := rfl
@[go_sem] theorem run_st__35__16_uint8 (w : World) (b o : Nat) (cs : Array Value) (hs : cs.size = 560) (h1 : cs.all (·.oneCell') = true) (h : okA w b o 560 = true) :
    (st 51 (.pointer (some ⟨b, o, none⟩)) (.agg cs)).run Try.prog w = .ok () (putW w b o cs) := run_st w cs (by rw [info__35__16_uint8, hs]) h1 b o (by rw [hs]; exact h)
@[go_sem] theorem run_st1__35__16_uint8 (w : World) (b o : Nat) (cs : Array Value) (hs : cs.size = 560) (h1 : one1 cs = true) (h : okA w b o 560 = true) :
    (st 51 (.pointer (some ⟨b, o, none⟩)) (.agg cs)).run Try.prog w = .ok () (putW w b o cs) := run_st w cs (by rw [info__35__16_uint8, hs]) h1 b o (by rw [hs]; exact h)
@[go_sem ↓] theorem ex_eq__35__16_uint8 (x y : Value) : binOp .eql 51 x y = eqv 51 x y := rfl
@[go_sem ↓] theorem ex_ne__35__16_uint8 (x y : Value) : binOp .neq 51 x y = nev 51 x y := rfl
theorem guard__35__16_uint8 : Try.prog.eqGuardType Try.prog.depth 51 = false := by kernel_rfl
@[go_sem] theorem run_guard__35__16_uint8 (w : World) (op : BinOp) (x y : Operand) (xs ys : Array Value) : (eqGuard op 51 x y (.agg xs) (.agg ys)).run Try.prog w = .ok () w := run_eqGuard_agg w op _ x y xs ys guard__35__16_uint8
theorem val__35__16_uint8 (cs : List Value) : valOf Try.prog 51 cs = .agg cs.toArray := by simp only [valOf, Try.underlying51]
@[go_sem ↓] theorem ex_bd__35__16_uint8 (ρ : Operand → Value) (dst : Option Tmp) (ps : Array (Nat × Operand)) (ty : TypeId) (pos : String) (aft : Array Edge) (gd : Option (Nat × Bool)) :
    execOp ρ ⟨dst, .build 51 ps, ty, pos, aft, gd⟩ = (do pure (.value (← bd 51 (ps.map fun (i, x) => (i, ρ x))))) := rfl
@[go_sem ↓] theorem ex_al__35__16_uint8 (ρ : Operand → Value) (dst : Option Tmp) (ty : TypeId) (pos : String) (aft : Array Edge) (gd : Option (Nat × Bool)) :
    execOp ρ ⟨dst, .alloc 51, ty, pos, aft, gd⟩ = (do pure (.value (← al 51))) := rfl
theorem zt__35__16_uint8 : (zeroTail Try.prog 51 0).size = 560 := by kernel_rfl
theorem zi__35__16_uint8 : (match Try.prog.info? 51 with | some i => i.zero.isSome | none => false) = true := by kernel_rfl
@[go_sem] theorem run_al__35__16_uint8 (w : World) : (al 51).run Try.prog w = .ok (.pointer (some ⟨w.heap.size, 0, none⟩)) (w.alloc (.cells (zeroTail Try.prog 51 0) 51)) := run_al w zi__35__16_uint8
theorem info__35_bulletinref07_Value : (Try.prog.info? 56).map (·.size) = some 560 := by kernel_rfl
@[go_sem ↓] theorem ex_ld__35_bulletinref07_Value (ρ : Operand → Value) (dst : Option Tmp) (x : Operand) (ty : TypeId) (pos : String) (aft : Array Edge) (gd : Option (Nat × Bool)) :
    execOp ρ ⟨dst, .load 56 x, ty, pos, aft, gd⟩ = (do pure (.value (← ld 56 (ρ x)))) := rfl
@[go_sem] theorem run_ld__35_bulletinref07_Value (w : World) (b o : Nat) (h : (ldA w b o 560).isSome = true) :
    (ld 56 (.pointer (some ⟨b, o, none⟩))).run Try.prog w = .ok (.agg ((ldA w b o 560).getD #[])) w := run_ld w Try.underlying56 rfl info__35_bulletinref07_Value b o h
@[go_sem ↓] theorem ex_st__35_bulletinref07_Value (ρ : Operand → Value) (dst : Option Tmp) (x y : Operand) (ty : TypeId) (pos : String) (aft : Array Edge) (gd : Option (Nat × Bool)) :
    execOp ρ ⟨dst, .store 56 x y, ty, pos, aft, gd⟩ = (do st 56 (ρ x) (ρ y); pure .skip) := rfl
@[go_sem] theorem run_st__35_bulletinref07_Value (w : World) (b o : Nat) (cs : Array Value) (hs : cs.size = 560) (h1 : cs.all (·.oneCell') = true) (h : okA w b o 560 = true) :
    (st 56 (.pointer (some ⟨b, o, none⟩)) (.agg cs)).run Try.prog w = .ok () (putW w b o cs) := run_st w cs (by rw [info__35_bulletinref07_Value, hs]) h1 b o (by rw [hs]; exact h)
@[go_sem] theorem run_st1__35_bulletinref07_Value (w : World) (b o : Nat) (cs : Array Value) (hs : cs.size = 560) (h1 : one1 cs = true) (h : okA w b o 560 = true) :
    (st 56 (.pointer (some ⟨b, o, none⟩)) (.agg cs)).run Try.prog w = .ok () (putW w b o cs) := run_st w cs (by rw [info__35_bulletinref07_Value, hs]) h1 b o (by rw [hs]; exact h)
@[go_sem ↓] theorem ex_eq__35_bulletinref07_Value (x y : Value) : binOp .eql 56 x y = eqv 56 x y := rfl
@[go_sem ↓] theorem ex_ne__35_bulletinref07_Value (x y : Value) : binOp .neq 56 x y = nev 56 x y := rfl
theorem guard__35_bulletinref07_Value : Try.prog.eqGuardType Try.prog.depth 56 = false := by kernel_rfl
@[go_sem] theorem run_guard__35_bulletinref07_Value (w : World) (op : BinOp) (x y : Operand) (xs ys : Array Value) : (eqGuard op 56 x y (.agg xs) (.agg ys)).run Try.prog w = .ok () w := run_eqGuard_agg w op _ x y xs ys guard__35_bulletinref07_Value
theorem val__35_bulletinref07_Value (cs : List Value) : valOf Try.prog 56 cs = .agg cs.toArray := by simp only [valOf, Try.underlying56]
@[go_sem ↓] theorem ex_bd__35_bulletinref07_Value (ρ : Operand → Value) (dst : Option Tmp) (ps : Array (Nat × Operand)) (ty : TypeId) (pos : String) (aft : Array Edge) (gd : Option (Nat × Bool)) :
    execOp ρ ⟨dst, .build 56 ps, ty, pos, aft, gd⟩ = (do pure (.value (← bd 56 (ps.map fun (i, x) => (i, ρ x))))) := rfl
@[go_sem ↓] theorem ex_al__35_bulletinref07_Value (ρ : Operand → Value) (dst : Option Tmp) (ty : TypeId) (pos : String) (aft : Array Edge) (gd : Option (Nat × Bool)) :
    execOp ρ ⟨dst, .alloc 56, ty, pos, aft, gd⟩ = (do pure (.value (← al 56))) := rfl
theorem zt__35_bulletinref07_Value : (zeroTail Try.prog 56 0).size = 560 := by kernel_rfl
theorem zi__35_bulletinref07_Value : (match Try.prog.info? 56 with | some i => i.zero.isSome | none => false) = true := by kernel_rfl
@[go_sem] theorem run_al__35_bulletinref07_Value (w : World) : (al 56).run Try.prog w = .ok (.pointer (some ⟨w.heap.size, 0, none⟩)) (w.alloc (.cells (zeroTail Try.prog 56 0) 56)) := run_al w zi__35_bulletinref07_Value
theorem info_bulletin_onetime_Signature : (Try.prog.info? 52).map (·.size) = some 560 := by kernel_rfl
@[go_sem ↓] theorem ex_ld_bulletin_onetime_Signature (ρ : Operand → Value) (dst : Option Tmp) (x : Operand) (ty : TypeId) (pos : String) (aft : Array Edge) (gd : Option (Nat × Bool)) :
    execOp ρ ⟨dst, .load 52 x, ty, pos, aft, gd⟩ = (do pure (.value (← ld 52 (ρ x)))) := rfl
@[go_sem] theorem run_ld_bulletin_onetime_Signature (w : World) (b o : Nat) (h : (ldA w b o 560).isSome = true) :
    (ld 52 (.pointer (some ⟨b, o, none⟩))).run Try.prog w = .ok (.agg ((ldA w b o 560).getD #[])) w := run_ld w Try.underlying52 rfl info_bulletin_onetime_Signature b o h
@[go_sem ↓] theorem ex_st_bulletin_onetime_Signature (ρ : Operand → Value) (dst : Option Tmp) (x y : Operand) (ty : TypeId) (pos : String) (aft : Array Edge) (gd : Option (Nat × Bool)) :
    execOp ρ ⟨dst, .store 52 x y, ty, pos, aft, gd⟩ = (do st 52 (ρ x) (ρ y); pure .skip) := rfl
@[go_sem] theorem run_st_bulletin_onetime_Signature (w : World) (b o : Nat) (cs : Array Value) (hs : cs.size = 560) (h1 : cs.all (·.oneCell') = true) (h : okA w b o 560 = true) :
    (st 52 (.pointer (some ⟨b, o, none⟩)) (.agg cs)).run Try.prog w = .ok () (putW w b o cs) := run_st w cs (by rw [info_bulletin_onetime_Signature, hs]) h1 b o (by rw [hs]; exact h)
@[go_sem] theorem run_st1_bulletin_onetime_Signature (w : World) (b o : Nat) (cs : Array Value) (hs : cs.size = 560) (h1 : one1 cs = true) (h : okA w b o 560 = true) :
    (st 52 (.pointer (some ⟨b, o, none⟩)) (.agg cs)).run Try.prog w = .ok () (putW w b o cs) := run_st w cs (by rw [info_bulletin_onetime_Signature, hs]) h1 b o (by rw [hs]; exact h)
@[go_sem ↓] theorem ex_eq_bulletin_onetime_Signature (x y : Value) : binOp .eql 52 x y = eqv 52 x y := rfl
@[go_sem ↓] theorem ex_ne_bulletin_onetime_Signature (x y : Value) : binOp .neq 52 x y = nev 52 x y := rfl
theorem guard_bulletin_onetime_Signature : Try.prog.eqGuardType Try.prog.depth 52 = false := by kernel_rfl
@[go_sem] theorem run_guard_bulletin_onetime_Signature (w : World) (op : BinOp) (x y : Operand) (xs ys : Array Value) : (eqGuard op 52 x y (.agg xs) (.agg ys)).run Try.prog w = .ok () w := run_eqGuard_agg w op _ x y xs ys guard_bulletin_onetime_Signature
theorem val_bulletin_onetime_Signature (cs : List Value) : valOf Try.prog 52 cs = .agg cs.toArray := by simp only [valOf, Try.underlying52]
@[go_sem ↓] theorem ex_bd_bulletin_onetime_Signature (ρ : Operand → Value) (dst : Option Tmp) (ps : Array (Nat × Operand)) (ty : TypeId) (pos : String) (aft : Array Edge) (gd : Option (Nat × Bool)) :
    execOp ρ ⟨dst, .build 52 ps, ty, pos, aft, gd⟩ = (do pure (.value (← bd 52 (ps.map fun (i, x) => (i, ρ x))))) := rfl
@[go_sem ↓] theorem ex_al_bulletin_onetime_Signature (ρ : Operand → Value) (dst : Option Tmp) (ty : TypeId) (pos : String) (aft : Array Edge) (gd : Option (Nat × Bool)) :
    execOp ρ ⟨dst, .alloc 52, ty, pos, aft, gd⟩ = (do pure (.value (← al 52))) := rfl
theorem zt_bulletin_onetime_Signature : (zeroTail Try.prog 52 0).size = 560 := by kernel_rfl
theorem zi_bulletin_onetime_Signature : (match Try.prog.info? 52 with | some i => i.zero.isSome | none => false) = true := by kernel_rfl
@[go_sem] theorem run_al_bulletin_onetime_Signature (w : World) : (al 52).run Try.prog w = .ok (.pointer (some ⟨w.heap.size, 0, none⟩)) (w.alloc (.cells (zeroTail Try.prog 52 0) 52)) := run_al w zi_bulletin_onetime_Signature
end Go.Proofs.Ytjdbfedkadoklaa
