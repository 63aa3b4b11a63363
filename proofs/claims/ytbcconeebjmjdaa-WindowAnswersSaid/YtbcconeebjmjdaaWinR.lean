/- Chapter 36: rules of the walk for this program's aggregates. Written by gen_rules.py, but for the last part. No condition. -/
import Derived.Test.YtbcconeebjmjdaaAgg
import Derived.Test.YtbcconeebjmjdaaProg
namespace Go.Proofs.Ytbcconeebjmjdaa
open Go.RowKit
theorem info_bulletin_api_Id : (Try.prog.info? 37).map (·.size) = some 32 := by kernel_rfl
@[go_sem ↓] theorem ex_ld_bulletin_api_Id (ρ : Operand → Value) (dst : Option Tmp) (x : Operand) (ty : TypeId) (pos : String) (aft : Array Edge) (gd : Option (Nat × Bool)) :
    execOp ρ ⟨dst, .load 37 x, ty, pos, aft, gd⟩ = (do pure (.value (← ld 37 (ρ x)))) := rfl
@[go_sem] theorem run_ld_bulletin_api_Id (w : World) (b o : Nat) (h : (ldA w b o 32).isSome = true) :
    (ld 37 (.pointer (some ⟨b, o, none⟩))).run Try.prog w = .ok (.agg ((ldA w b o 32).getD #[])) w := run_ld w Try.underlying37 rfl info_bulletin_api_Id b o h
@[go_sem ↓] theorem ex_st_bulletin_api_Id (ρ : Operand → Value) (dst : Option Tmp) (x y : Operand) (ty : TypeId) (pos : String) (aft : Array Edge) (gd : Option (Nat × Bool)) :
    execOp ρ ⟨dst, .store 37 x y, ty, pos, aft, gd⟩ = (do st 37 (ρ x) (ρ y); pure .skip) := rfl
@[go_sem] theorem run_st_bulletin_api_Id (w : World) (b o : Nat) (cs : Array Value) (hs : cs.size = 32) (h1 : cs.all (·.oneCell') = true) (h : okA w b o 32 = true) :
    (st 37 (.pointer (some ⟨b, o, none⟩)) (.agg cs)).run Try.prog w = .ok () (putW w b o cs) := run_st w cs (by rw [info_bulletin_api_Id, hs]) h1 b o (by rw [hs]; exact h)
@[go_sem ↓] theorem ex_eq_bulletin_api_Id (x y : Value) : binOp .eql 37 x y = eqv 37 x y := rfl
@[go_sem ↓] theorem ex_ne_bulletin_api_Id (x y : Value) : binOp .neq 37 x y = nev 37 x y := rfl
theorem guard_bulletin_api_Id : Try.prog.eqGuardType Try.prog.depth 37 = false := by kernel_rfl
@[go_sem] theorem run_guard_bulletin_api_Id (w : World) (op : BinOp) (x y : Operand) (xs ys : Array Value) : (eqGuard op 37 x y (.agg xs) (.agg ys)).run Try.prog w = .ok () w := run_eqGuard_agg w op _ x y xs ys guard_bulletin_api_Id
theorem val_bulletin_api_Id (cs : List Value) : valOf Try.prog 37 cs = .agg cs.toArray := by simp only [valOf, Try.underlying37]
theorem info_bulletin_window_offer : (Try.prog.info? 81).map (·.size) = some 34 := by kernel_rfl
@[go_sem ↓] theorem ex_ld_bulletin_window_offer (ρ : Operand → Value) (dst : Option Tmp) (x : Operand) (ty : TypeId) (pos : String) (aft : Array Edge) (gd : Option (Nat × Bool)) :
    execOp ρ ⟨dst, .load 81 x, ty, pos, aft, gd⟩ = (do pure (.value (← ld 81 (ρ x)))) := rfl
@[go_sem] theorem run_ld_bulletin_window_offer (w : World) (b o : Nat) (h : (ldA w b o 34).isSome = true) :
    (ld 81 (.pointer (some ⟨b, o, none⟩))).run Try.prog w = .ok (.agg ((ldA w b o 34).getD #[])) w := run_ld w Try.underlying81 rfl info_bulletin_window_offer b o h
@[go_sem ↓] theorem ex_st_bulletin_window_offer (ρ : Operand → Value) (dst : Option Tmp) (x y : Operand) (ty : TypeId) (pos : String) (aft : Array Edge) (gd : Option (Nat × Bool)) :
    execOp ρ ⟨dst, .store 81 x y, ty, pos, aft, gd⟩ = (do st 81 (ρ x) (ρ y); pure .skip) := rfl
@[go_sem] theorem run_st_bulletin_window_offer (w : World) (b o : Nat) (cs : Array Value) (hs : cs.size = 34) (h1 : cs.all (·.oneCell') = true) (h : okA w b o 34 = true) :
    (st 81 (.pointer (some ⟨b, o, none⟩)) (.agg cs)).run Try.prog w = .ok () (putW w b o cs) := run_st w cs (by rw [info_bulletin_window_offer, hs]) h1 b o (by rw [hs]; exact h)
@[go_sem ↓] theorem ex_eq_bulletin_window_offer (x y : Value) : binOp .eql 81 x y = eqv 81 x y := rfl
@[go_sem ↓] theorem ex_ne_bulletin_window_offer (x y : Value) : binOp .neq 81 x y = nev 81 x y := rfl
theorem guard_bulletin_window_offer : Try.prog.eqGuardType Try.prog.depth 81 = false := by kernel_rfl
@[go_sem] theorem run_guard_bulletin_window_offer (w : World) (op : BinOp) (x y : Operand) (xs ys : Array Value) : (eqGuard op 81 x y (.agg xs) (.agg ys)).run Try.prog w = .ok () w := run_eqGuard_agg w op _ x y xs ys guard_bulletin_window_offer
theorem val_bulletin_window_offer (cs : List Value) : valOf Try.prog 81 cs = .agg cs.toArray := by simp only [valOf, Try.underlying81]
@[go_sem ↓] theorem ex_bd_bulletin_window_offer (ρ : Operand → Value) (dst : Option Tmp) (ps : Array (Nat × Operand)) (ty : TypeId) (pos : String) (aft : Array Edge) (gd : Option (Nat × Bool)) :
    execOp ρ ⟨dst, .build 81 ps, ty, pos, aft, gd⟩ = (do pure (.value (← bd 81 (ps.map fun (i, x) => (i, ρ x))))) := rfl
theorem info_bulletin_window_Result : (Try.prog.info? 43).map (·.size) = some 33 := by kernel_rfl
@[go_sem ↓] theorem ex_ld_bulletin_window_Result (ρ : Operand → Value) (dst : Option Tmp) (x : Operand) (ty : TypeId) (pos : String) (aft : Array Edge) (gd : Option (Nat × Bool)) :
    execOp ρ ⟨dst, .load 43 x, ty, pos, aft, gd⟩ = (do pure (.value (← ld 43 (ρ x)))) := rfl
@[go_sem] theorem run_ld_bulletin_window_Result (w : World) (b o : Nat) (h : (ldA w b o 33).isSome = true) :
    (ld 43 (.pointer (some ⟨b, o, none⟩))).run Try.prog w = .ok (.agg ((ldA w b o 33).getD #[])) w := run_ld w Try.underlying43 rfl info_bulletin_window_Result b o h
@[go_sem ↓] theorem ex_st_bulletin_window_Result (ρ : Operand → Value) (dst : Option Tmp) (x y : Operand) (ty : TypeId) (pos : String) (aft : Array Edge) (gd : Option (Nat × Bool)) :
    execOp ρ ⟨dst, .store 43 x y, ty, pos, aft, gd⟩ = (do st 43 (ρ x) (ρ y); pure .skip) := rfl
@[go_sem] theorem run_st_bulletin_window_Result (w : World) (b o : Nat) (cs : Array Value) (hs : cs.size = 33) (h1 : cs.all (·.oneCell') = true) (h : okA w b o 33 = true) :
    (st 43 (.pointer (some ⟨b, o, none⟩)) (.agg cs)).run Try.prog w = .ok () (putW w b o cs) := run_st w cs (by rw [info_bulletin_window_Result, hs]) h1 b o (by rw [hs]; exact h)
@[go_sem ↓] theorem ex_eq_bulletin_window_Result (x y : Value) : binOp .eql 43 x y = eqv 43 x y := rfl
@[go_sem ↓] theorem ex_ne_bulletin_window_Result (x y : Value) : binOp .neq 43 x y = nev 43 x y := rfl
theorem guard_bulletin_window_Result : Try.prog.eqGuardType Try.prog.depth 43 = false := by kernel_rfl
@[go_sem] theorem run_guard_bulletin_window_Result (w : World) (op : BinOp) (x y : Operand) (xs ys : Array Value) : (eqGuard op 43 x y (.agg xs) (.agg ys)).run Try.prog w = .ok () w := run_eqGuard_agg w op _ x y xs ys guard_bulletin_window_Result
theorem val_bulletin_window_Result (cs : List Value) : valOf Try.prog 43 cs = .agg cs.toArray := by simp only [valOf, Try.underlying43]
@[go_sem ↓] theorem ex_bd_bulletin_window_Result (ρ : Operand → Value) (dst : Option Tmp) (ps : Array (Nat × Operand)) (ty : TypeId) (pos : String) (aft : Array Edge) (gd : Option (Nat × Bool)) :
    execOp ρ ⟨dst, .build 43 ps, ty, pos, aft, gd⟩ = (do pure (.value (← bd 43 (ps.map fun (i, x) => (i, ρ x))))) := rfl
theorem info_bulletin_bulletinlaw36_Op : (Try.prog.info? 51).map (·.size) = some 34 := by kernel_rfl
@[go_sem ↓] theorem ex_ld_bulletin_bulletinlaw36_Op (ρ : Operand → Value) (dst : Option Tmp) (x : Operand) (ty : TypeId) (pos : String) (aft : Array Edge) (gd : Option (Nat × Bool)) :
    execOp ρ ⟨dst, .load 51 x, ty, pos, aft, gd⟩ = (do pure (.value (← ld 51 (ρ x)))) := rfl
@[go_sem] theorem run_ld_bulletin_bulletinlaw36_Op (w : World) (b o : Nat) (h : (ldA w b o 34).isSome = true) :
    (ld 51 (.pointer (some ⟨b, o, none⟩))).run Try.prog w = .ok (.agg ((ldA w b o 34).getD #[])) w := run_ld w Try.underlying51 rfl info_bulletin_bulletinlaw36_Op b o h
@[go_sem ↓] theorem ex_st_bulletin_bulletinlaw36_Op (ρ : Operand → Value) (dst : Option Tmp) (x y : Operand) (ty : TypeId) (pos : String) (aft : Array Edge) (gd : Option (Nat × Bool)) :
    execOp ρ ⟨dst, .store 51 x y, ty, pos, aft, gd⟩ = (do st 51 (ρ x) (ρ y); pure .skip) := rfl
@[go_sem] theorem run_st_bulletin_bulletinlaw36_Op (w : World) (b o : Nat) (cs : Array Value) (hs : cs.size = 34) (h1 : cs.all (·.oneCell') = true) (h : okA w b o 34 = true) :
    (st 51 (.pointer (some ⟨b, o, none⟩)) (.agg cs)).run Try.prog w = .ok () (putW w b o cs) := run_st w cs (by rw [info_bulletin_bulletinlaw36_Op, hs]) h1 b o (by rw [hs]; exact h)
theorem info_bulletin_bulletinlaw36_offer : (Try.prog.info? 72).map (·.size) = some 34 := by kernel_rfl
@[go_sem ↓] theorem ex_ld_bulletin_bulletinlaw36_offer (ρ : Operand → Value) (dst : Option Tmp) (x : Operand) (ty : TypeId) (pos : String) (aft : Array Edge) (gd : Option (Nat × Bool)) :
    execOp ρ ⟨dst, .load 72 x, ty, pos, aft, gd⟩ = (do pure (.value (← ld 72 (ρ x)))) := rfl
@[go_sem] theorem run_ld_bulletin_bulletinlaw36_offer (w : World) (b o : Nat) (h : (ldA w b o 34).isSome = true) :
    (ld 72 (.pointer (some ⟨b, o, none⟩))).run Try.prog w = .ok (.agg ((ldA w b o 34).getD #[])) w := run_ld w Try.underlying72 rfl info_bulletin_bulletinlaw36_offer b o h
@[go_sem ↓] theorem ex_st_bulletin_bulletinlaw36_offer (ρ : Operand → Value) (dst : Option Tmp) (x y : Operand) (ty : TypeId) (pos : String) (aft : Array Edge) (gd : Option (Nat × Bool)) :
    execOp ρ ⟨dst, .store 72 x y, ty, pos, aft, gd⟩ = (do st 72 (ρ x) (ρ y); pure .skip) := rfl
@[go_sem] theorem run_st_bulletin_bulletinlaw36_offer (w : World) (b o : Nat) (cs : Array Value) (hs : cs.size = 34) (h1 : cs.all (·.oneCell') = true) (h : okA w b o 34 = true) :
    (st 72 (.pointer (some ⟨b, o, none⟩)) (.agg cs)).run Try.prog w = .ok () (putW w b o cs) := run_st w cs (by rw [info_bulletin_bulletinlaw36_offer, hs]) h1 b o (by rw [hs]; exact h)
@[go_sem ↓] theorem ex_eq_bulletin_bulletinlaw36_offer (x y : Value) : binOp .eql 72 x y = eqv 72 x y := rfl
@[go_sem ↓] theorem ex_ne_bulletin_bulletinlaw36_offer (x y : Value) : binOp .neq 72 x y = nev 72 x y := rfl
theorem guard_bulletin_bulletinlaw36_offer : Try.prog.eqGuardType Try.prog.depth 72 = false := by kernel_rfl
@[go_sem] theorem run_guard_bulletin_bulletinlaw36_offer (w : World) (op : BinOp) (x y : Operand) (xs ys : Array Value) : (eqGuard op 72 x y (.agg xs) (.agg ys)).run Try.prog w = .ok () w := run_eqGuard_agg w op _ x y xs ys guard_bulletin_bulletinlaw36_offer
theorem val_bulletin_bulletinlaw36_offer (cs : List Value) : valOf Try.prog 72 cs = .agg cs.toArray := by simp only [valOf, Try.underlying72]
@[go_sem ↓] theorem ex_bd_bulletin_bulletinlaw36_offer (ρ : Operand → Value) (dst : Option Tmp) (ps : Array (Nat × Operand)) (ty : TypeId) (pos : String) (aft : Array Edge) (gd : Option (Nat × Bool)) :
    execOp ρ ⟨dst, .build 72 ps, ty, pos, aft, gd⟩ = (do pure (.value (← bd 72 (ps.map fun (i, x) => (i, ρ x))))) := rfl
theorem info__6_bool : (Try.prog.info? 84).map (·.size) = some 6 := by kernel_rfl
@[go_sem ↓] theorem ex_ld__6_bool (ρ : Operand → Value) (dst : Option Tmp) (x : Operand) (ty : TypeId) (pos : String) (aft : Array Edge) (gd : Option (Nat × Bool)) :
    execOp ρ ⟨dst, .load 84 x, ty, pos, aft, gd⟩ = (do pure (.value (← ld 84 (ρ x)))) := rfl
@[go_sem] theorem run_ld__6_bool (w : World) (b o : Nat) (h : (ldA w b o 6).isSome = true) :
    (ld 84 (.pointer (some ⟨b, o, none⟩))).run Try.prog w = .ok (.agg ((ldA w b o 6).getD #[])) w := run_ld w Try.underlying84 rfl info__6_bool b o h
@[go_sem ↓] theorem ex_st__6_bool (ρ : Operand → Value) (dst : Option Tmp) (x y : Operand) (ty : TypeId) (pos : String) (aft : Array Edge) (gd : Option (Nat × Bool)) :
    execOp ρ ⟨dst, .store 84 x y, ty, pos, aft, gd⟩ = (do st 84 (ρ x) (ρ y); pure .skip) := rfl
@[go_sem] theorem run_st__6_bool (w : World) (b o : Nat) (cs : Array Value) (hs : cs.size = 6) (h1 : cs.all (·.oneCell') = true) (h : okA w b o 6 = true) :
    (st 84 (.pointer (some ⟨b, o, none⟩)) (.agg cs)).run Try.prog w = .ok () (putW w b o cs) := run_st w cs (by rw [info__6_bool, hs]) h1 b o (by rw [hs]; exact h)
@[go_sem ↓] theorem ex_bd__6_bool (ρ : Operand → Value) (dst : Option Tmp) (ps : Array (Nat × Operand)) (ty : TypeId) (pos : String) (aft : Array Edge) (gd : Option (Nat × Bool)) :
    execOp ρ ⟨dst, .build 84 ps, ty, pos, aft, gd⟩ = (do pure (.value (← bd 84 (ps.map fun (i, x) => (i, ρ x))))) := rfl
theorem info__6__6_bool : (Try.prog.info? 85).map (·.size) = some 36 := by kernel_rfl
@[go_sem ↓] theorem ex_ld__6__6_bool (ρ : Operand → Value) (dst : Option Tmp) (x : Operand) (ty : TypeId) (pos : String) (aft : Array Edge) (gd : Option (Nat × Bool)) :
    execOp ρ ⟨dst, .load 85 x, ty, pos, aft, gd⟩ = (do pure (.value (← ld 85 (ρ x)))) := rfl
@[go_sem] theorem run_ld__6__6_bool (w : World) (b o : Nat) (h : (ldA w b o 36).isSome = true) :
    (ld 85 (.pointer (some ⟨b, o, none⟩))).run Try.prog w = .ok (.agg ((ldA w b o 36).getD #[])) w := run_ld w Try.underlying85 rfl info__6__6_bool b o h
@[go_sem ↓] theorem ex_st__6__6_bool (ρ : Operand → Value) (dst : Option Tmp) (x y : Operand) (ty : TypeId) (pos : String) (aft : Array Edge) (gd : Option (Nat × Bool)) :
    execOp ρ ⟨dst, .store 85 x y, ty, pos, aft, gd⟩ = (do st 85 (ρ x) (ρ y); pure .skip) := rfl
@[go_sem] theorem run_st__6__6_bool (w : World) (b o : Nat) (cs : Array Value) (hs : cs.size = 36) (h1 : cs.all (·.oneCell') = true) (h : okA w b o 36 = true) :
    (st 85 (.pointer (some ⟨b, o, none⟩)) (.agg cs)).run Try.prog w = .ok () (putW w b o cs) := run_st w cs (by rw [info__6__6_bool, hs]) h1 b o (by rw [hs]; exact h)
@[go_sem ↓] theorem ex_bsl___window_offer (ρ : Operand → Value) (dst : Option Tmp) (n : Nat) (ps : Array (Nat × Operand)) (ty : TypeId) (pos : String) (aft : Array Edge) (gd : Option (Nat × Bool)) :
    execOp ρ ⟨dst, .buildSlice 76 n ps, ty, pos, aft, gd⟩ = (do pure (.value (← bsl 76 n (ps.map fun (i, x) => (i, ρ x))))) := rfl
@[go_sem ↓] theorem ex_bsl___api_Id (ρ : Operand → Value) (dst : Option Tmp) (n : Nat) (ps : Array (Nat × Operand)) (ty : TypeId) (pos : String) (aft : Array Edge) (gd : Option (Nat × Bool)) :
    execOp ρ ⟨dst, .buildSlice 33 n ps, ty, pos, aft, gd⟩ = (do pure (.value (← bsl 33 n (ps.map fun (i, x) => (i, ρ x))))) := rfl
@[go_sem ↓] theorem ex_bsl___window_Result (ρ : Operand → Value) (dst : Option Tmp) (n : Nat) (ps : Array (Nat × Operand)) (ty : TypeId) (pos : String) (aft : Array Edge) (gd : Option (Nat × Bool)) :
    execOp ρ ⟨dst, .buildSlice 30 n ps, ty, pos, aft, gd⟩ = (do pure (.value (← bsl 30 n (ps.map fun (i, x) => (i, ρ x))))) := rfl
@[go_sem ↓] theorem ex_bsl___bulletinlaw36_offer (ρ : Operand → Value) (dst : Option Tmp) (n : Nat) (ps : Array (Nat × Operand)) (ty : TypeId) (pos : String) (aft : Array Edge) (gd : Option (Nat × Bool)) :
    execOp ρ ⟨dst, .buildSlice 56 n ps, ty, pos, aft, gd⟩ = (do pure (.value (← bsl 56 n (ps.map fun (i, x) => (i, ρ x))))) := rfl
end Go.Proofs.Ytbcconeebjmjdaa
