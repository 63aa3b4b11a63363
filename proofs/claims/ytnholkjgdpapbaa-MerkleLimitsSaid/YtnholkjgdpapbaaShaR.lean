/- SHA-256: rules of the walk for this chapter's aggregates. Written by gen_rules.py. No condition. -/
import Derived.Test.YtnholkjgdpapbaaAggB
import Derived.Test.YtnholkjgdpapbaaProg
namespace Go.Proofs.Ytnholkjgdpapbaa
set_option linter.unusedVariables false
set_option linter.unusedSimpArgs false
open Go.RowKit
theorem info_bulletin_sha256_words : (Try.prog.info? 117).map (·.size) = some 8 := by kernel_rfl
@[go_sem ↓] theorem ex_ld_bulletin_sha256_words (ρ : Operand → Value) (dst : Option Tmp) (x : Operand) (ty : TypeId) (pos : String) (aft : Array Edge) (gd : Option (Nat × Bool)) :
    execOp ρ ⟨dst, .load 117 x, ty, pos, aft, gd⟩ = (do pure (.value (← ld 117 (ρ x)))) := rfl
@[go_sem] theorem run_ld_bulletin_sha256_words (w : World) (b o : Nat) (h : (ldA w b o 8).isSome = true) :
    (ld 117 (.pointer (some ⟨b, o, none⟩))).run Try.prog w = .ok (.agg ((ldA w b o 8).getD #[])) w := run_ld w Try.underlying117 rfl info_bulletin_sha256_words b o h
@[go_sem ↓] theorem ex_st_bulletin_sha256_words (ρ : Operand → Value) (dst : Option Tmp) (x y : Operand) (ty : TypeId) (pos : String) (aft : Array Edge) (gd : Option (Nat × Bool)) :
    execOp ρ ⟨dst, .store 117 x y, ty, pos, aft, gd⟩ = (do st 117 (ρ x) (ρ y); pure .skip) := rfl
@[go_sem] theorem run_st_bulletin_sha256_words (w : World) (b o : Nat) (cs : Array Value) (hs : cs.size = 8) (h1 : cs.all (·.oneCell') = true) (h : okA w b o 8 = true) :
    (st 117 (.pointer (some ⟨b, o, none⟩)) (.agg cs)).run Try.prog w = .ok () (putW w b o cs) := run_st w cs (by rw [info_bulletin_sha256_words, hs]) h1 b o (by rw [hs]; exact h)
@[go_sem ↓] theorem ex_bd_bulletin_sha256_words (ρ : Operand → Value) (dst : Option Tmp) (ps : Array (Nat × Operand)) (ty : TypeId) (pos : String) (aft : Array Edge) (gd : Option (Nat × Bool)) :
    execOp ρ ⟨dst, .build 117 ps, ty, pos, aft, gd⟩ = (do pure (.value (← bd 117 (ps.map fun (i, x) => (i, ρ x))))) := rfl
theorem info_bulletin_sha256_block : (Try.prog.info? 124).map (·.size) = some 16 := by kernel_rfl
@[go_sem ↓] theorem ex_ld_bulletin_sha256_block (ρ : Operand → Value) (dst : Option Tmp) (x : Operand) (ty : TypeId) (pos : String) (aft : Array Edge) (gd : Option (Nat × Bool)) :
    execOp ρ ⟨dst, .load 124 x, ty, pos, aft, gd⟩ = (do pure (.value (← ld 124 (ρ x)))) := rfl
@[go_sem] theorem run_ld_bulletin_sha256_block (w : World) (b o : Nat) (h : (ldA w b o 16).isSome = true) :
    (ld 124 (.pointer (some ⟨b, o, none⟩))).run Try.prog w = .ok (.agg ((ldA w b o 16).getD #[])) w := run_ld w Try.underlying124 rfl info_bulletin_sha256_block b o h
@[go_sem ↓] theorem ex_st_bulletin_sha256_block (ρ : Operand → Value) (dst : Option Tmp) (x y : Operand) (ty : TypeId) (pos : String) (aft : Array Edge) (gd : Option (Nat × Bool)) :
    execOp ρ ⟨dst, .store 124 x y, ty, pos, aft, gd⟩ = (do st 124 (ρ x) (ρ y); pure .skip) := rfl
@[go_sem] theorem run_st_bulletin_sha256_block (w : World) (b o : Nat) (cs : Array Value) (hs : cs.size = 16) (h1 : cs.all (·.oneCell') = true) (h : okA w b o 16 = true) :
    (st 124 (.pointer (some ⟨b, o, none⟩)) (.agg cs)).run Try.prog w = .ok () (putW w b o cs) := run_st w cs (by rw [info_bulletin_sha256_block, hs]) h1 b o (by rw [hs]; exact h)
theorem info__64_uint32 : (Try.prog.info? 106).map (·.size) = some 64 := by kernel_rfl
@[go_sem ↓] theorem ex_ld__64_uint32 (ρ : Operand → Value) (dst : Option Tmp) (x : Operand) (ty : TypeId) (pos : String) (aft : Array Edge) (gd : Option (Nat × Bool)) :
    execOp ρ ⟨dst, .load 106 x, ty, pos, aft, gd⟩ = (do pure (.value (← ld 106 (ρ x)))) := rfl
@[go_sem] theorem run_ld__64_uint32 (w : World) (b o : Nat) (h : (ldA w b o 64).isSome = true) :
    (ld 106 (.pointer (some ⟨b, o, none⟩))).run Try.prog w = .ok (.agg ((ldA w b o 64).getD #[])) w := run_ld w Try.underlying106 rfl info__64_uint32 b o h
@[go_sem ↓] theorem ex_st__64_uint32 (ρ : Operand → Value) (dst : Option Tmp) (x y : Operand) (ty : TypeId) (pos : String) (aft : Array Edge) (gd : Option (Nat × Bool)) :
    execOp ρ ⟨dst, .store 106 x y, ty, pos, aft, gd⟩ = (do st 106 (ρ x) (ρ y); pure .skip) := rfl
@[go_sem] theorem run_st__64_uint32 (w : World) (b o : Nat) (cs : Array Value) (hs : cs.size = 64) (h1 : cs.all (·.oneCell') = true) (h : okA w b o 64 = true) :
    (st 106 (.pointer (some ⟨b, o, none⟩)) (.agg cs)).run Try.prog w = .ok () (putW w b o cs) := run_st w cs (by rw [info__64_uint32, hs]) h1 b o (by rw [hs]; exact h)
@[go_sem ↓] theorem ex_bd__64_uint32 (ρ : Operand → Value) (dst : Option Tmp) (ps : Array (Nat × Operand)) (ty : TypeId) (pos : String) (aft : Array Edge) (gd : Option (Nat × Bool)) :
    execOp ρ ⟨dst, .build 106 ps, ty, pos, aft, gd⟩ = (do pure (.value (← bd 106 (ps.map fun (i, x) => (i, ρ x))))) := rfl
theorem info__8_uint32 : (Try.prog.info? 105).map (·.size) = some 8 := by kernel_rfl
@[go_sem ↓] theorem ex_ld__8_uint32 (ρ : Operand → Value) (dst : Option Tmp) (x : Operand) (ty : TypeId) (pos : String) (aft : Array Edge) (gd : Option (Nat × Bool)) :
    execOp ρ ⟨dst, .load 105 x, ty, pos, aft, gd⟩ = (do pure (.value (← ld 105 (ρ x)))) := rfl
@[go_sem] theorem run_ld__8_uint32 (w : World) (b o : Nat) (h : (ldA w b o 8).isSome = true) :
    (ld 105 (.pointer (some ⟨b, o, none⟩))).run Try.prog w = .ok (.agg ((ldA w b o 8).getD #[])) w := run_ld w Try.underlying105 rfl info__8_uint32 b o h
@[go_sem ↓] theorem ex_st__8_uint32 (ρ : Operand → Value) (dst : Option Tmp) (x y : Operand) (ty : TypeId) (pos : String) (aft : Array Edge) (gd : Option (Nat × Bool)) :
    execOp ρ ⟨dst, .store 105 x y, ty, pos, aft, gd⟩ = (do st 105 (ρ x) (ρ y); pure .skip) := rfl
@[go_sem] theorem run_st__8_uint32 (w : World) (b o : Nat) (cs : Array Value) (hs : cs.size = 8) (h1 : cs.all (·.oneCell') = true) (h : okA w b o 8 = true) :
    (st 105 (.pointer (some ⟨b, o, none⟩)) (.agg cs)).run Try.prog w = .ok () (putW w b o cs) := run_st w cs (by rw [info__8_uint32, hs]) h1 b o (by rw [hs]; exact h)
@[go_sem ↓] theorem ex_bd__8_uint32 (ρ : Operand → Value) (dst : Option Tmp) (ps : Array (Nat × Operand)) (ty : TypeId) (pos : String) (aft : Array Edge) (gd : Option (Nat × Bool)) :
    execOp ρ ⟨dst, .build 105 ps, ty, pos, aft, gd⟩ = (do pure (.value (← bd 105 (ps.map fun (i, x) => (i, ρ x))))) := rfl
theorem info_bulletin_sha256_Hash : (Try.prog.info? 120).map (·.size) = some 11 := by kernel_rfl
@[go_sem ↓] theorem ex_ld_bulletin_sha256_Hash (ρ : Operand → Value) (dst : Option Tmp) (x : Operand) (ty : TypeId) (pos : String) (aft : Array Edge) (gd : Option (Nat × Bool)) :
    execOp ρ ⟨dst, .load 120 x, ty, pos, aft, gd⟩ = (do pure (.value (← ld 120 (ρ x)))) := rfl
@[go_sem] theorem run_ld_bulletin_sha256_Hash (w : World) (b o : Nat) (h : (ldA w b o 11).isSome = true) :
    (ld 120 (.pointer (some ⟨b, o, none⟩))).run Try.prog w = .ok (.agg ((ldA w b o 11).getD #[])) w := run_ld w Try.underlying120 rfl info_bulletin_sha256_Hash b o h
@[go_sem ↓] theorem ex_st_bulletin_sha256_Hash (ρ : Operand → Value) (dst : Option Tmp) (x y : Operand) (ty : TypeId) (pos : String) (aft : Array Edge) (gd : Option (Nat × Bool)) :
    execOp ρ ⟨dst, .store 120 x y, ty, pos, aft, gd⟩ = (do st 120 (ρ x) (ρ y); pure .skip) := rfl
@[go_sem] theorem run_st_bulletin_sha256_Hash (w : World) (b o : Nat) (cs : Array Value) (hs : cs.size = 11) (h1 : cs.all (·.oneCell') = true) (h : okA w b o 11 = true) :
    (st 120 (.pointer (some ⟨b, o, none⟩)) (.agg cs)).run Try.prog w = .ok () (putW w b o cs) := run_st w cs (by rw [info_bulletin_sha256_Hash, hs]) h1 b o (by rw [hs]; exact h)
@[go_sem ↓] theorem ex_bd_bulletin_sha256_Hash (ρ : Operand → Value) (dst : Option Tmp) (ps : Array (Nat × Operand)) (ty : TypeId) (pos : String) (aft : Array Edge) (gd : Option (Nat × Bool)) :
    execOp ρ ⟨dst, .build 120 ps, ty, pos, aft, gd⟩ = (do pure (.value (← bd 120 (ps.map fun (i, x) => (i, ρ x))))) := rfl
theorem info_bulletin_sha256_Digest : (Try.prog.info? 103).map (·.size) = some 32 := by kernel_rfl
@[go_sem ↓] theorem ex_ld_bulletin_sha256_Digest (ρ : Operand → Value) (dst : Option Tmp) (x : Operand) (ty : TypeId) (pos : String) (aft : Array Edge) (gd : Option (Nat × Bool)) :
    execOp ρ ⟨dst, .load 103 x, ty, pos, aft, gd⟩ = (do pure (.value (← ld 103 (ρ x)))) := rfl
@[go_sem] theorem run_ld_bulletin_sha256_Digest (w : World) (b o : Nat) (h : (ldA w b o 32).isSome = true) :
    (ld 103 (.pointer (some ⟨b, o, none⟩))).run Try.prog w = .ok (.agg ((ldA w b o 32).getD #[])) w := run_ld w Try.underlying103 rfl info_bulletin_sha256_Digest b o h
@[go_sem ↓] theorem ex_st_bulletin_sha256_Digest (ρ : Operand → Value) (dst : Option Tmp) (x y : Operand) (ty : TypeId) (pos : String) (aft : Array Edge) (gd : Option (Nat × Bool)) :
    execOp ρ ⟨dst, .store 103 x y, ty, pos, aft, gd⟩ = (do st 103 (ρ x) (ρ y); pure .skip) := rfl
@[go_sem] theorem run_st_bulletin_sha256_Digest (w : World) (b o : Nat) (cs : Array Value) (hs : cs.size = 32) (h1 : cs.all (·.oneCell') = true) (h : okA w b o 32 = true) :
    (st 103 (.pointer (some ⟨b, o, none⟩)) (.agg cs)).run Try.prog w = .ok () (putW w b o cs) := run_st w cs (by rw [info_bulletin_sha256_Digest, hs]) h1 b o (by rw [hs]; exact h)
@[go_sem ↓] theorem ex_eq_bulletin_sha256_Digest (x y : Value) : binOp .eql 103 x y = eqv 103 x y := rfl
@[go_sem ↓] theorem ex_ne_bulletin_sha256_Digest (x y : Value) : binOp .neq 103 x y = nev 103 x y := rfl
theorem guard_bulletin_sha256_Digest : Try.prog.eqGuardType Try.prog.depth 103 = false := by kernel_rfl
@[go_sem] theorem run_guard_bulletin_sha256_Digest (w : World) (op : BinOp) (x y : Operand) (xs ys : Array Value) : (eqGuard op 103 x y (.agg xs) (.agg ys)).run Try.prog w = .ok () w := run_eqGuard_agg w op _ x y xs ys guard_bulletin_sha256_Digest
theorem val_bulletin_sha256_Digest (cs : List Value) : valOf Try.prog 103 cs = .agg cs.toArray := by simp only [valOf, Try.underlying103]
@[go_sem ↓] theorem ex_bd_bulletin_sha256_Digest (ρ : Operand → Value) (dst : Option Tmp) (ps : Array (Nat × Operand)) (ty : TypeId) (pos : String) (aft : Array Edge) (gd : Option (Nat × Bool)) :
    execOp ρ ⟨dst, .build 103 ps, ty, pos, aft, gd⟩ = (do pure (.value (← bd 103 (ps.map fun (i, x) => (i, ρ x))))) := rfl
theorem info__32_uint8 : (Try.prog.info? 98).map (·.size) = some 32 := by kernel_rfl
@[go_sem ↓] theorem ex_ld__32_uint8 (ρ : Operand → Value) (dst : Option Tmp) (x : Operand) (ty : TypeId) (pos : String) (aft : Array Edge) (gd : Option (Nat × Bool)) :
    execOp ρ ⟨dst, .load 98 x, ty, pos, aft, gd⟩ = (do pure (.value (← ld 98 (ρ x)))) := rfl
@[go_sem] theorem run_ld__32_uint8 (w : World) (b o : Nat) (h : (ldA w b o 32).isSome = true) :
    (ld 98 (.pointer (some ⟨b, o, none⟩))).run Try.prog w = .ok (.agg ((ldA w b o 32).getD #[])) w := run_ld w Try.underlying98 rfl info__32_uint8 b o h
@[go_sem ↓] theorem ex_st__32_uint8 (ρ : Operand → Value) (dst : Option Tmp) (x y : Operand) (ty : TypeId) (pos : String) (aft : Array Edge) (gd : Option (Nat × Bool)) :
    execOp ρ ⟨dst, .store 98 x y, ty, pos, aft, gd⟩ = (do st 98 (ρ x) (ρ y); pure .skip) := rfl
@[go_sem] theorem run_st__32_uint8 (w : World) (b o : Nat) (cs : Array Value) (hs : cs.size = 32) (h1 : cs.all (·.oneCell') = true) (h : okA w b o 32 = true) :
    (st 98 (.pointer (some ⟨b, o, none⟩)) (.agg cs)).run Try.prog w = .ok () (putW w b o cs) := run_st w cs (by rw [info__32_uint8, hs]) h1 b o (by rw [hs]; exact h)
@[go_sem ↓] theorem ex_eq__32_uint8 (x y : Value) : binOp .eql 98 x y = eqv 98 x y := rfl
@[go_sem ↓] theorem ex_ne__32_uint8 (x y : Value) : binOp .neq 98 x y = nev 98 x y := rfl
theorem guard__32_uint8 : Try.prog.eqGuardType Try.prog.depth 98 = false := by kernel_rfl
@[go_sem] theorem run_guard__32_uint8 (w : World) (op : BinOp) (x y : Operand) (xs ys : Array Value) : (eqGuard op 98 x y (.agg xs) (.agg ys)).run Try.prog w = .ok () w := run_eqGuard_agg w op _ x y xs ys guard__32_uint8
theorem val__32_uint8 (cs : List Value) : valOf Try.prog 98 cs = .agg cs.toArray := by simp only [valOf, Try.underlying98]
theorem info_bulletin_sha256_Half : (Try.prog.info? 96).map (·.size) = some 16 := by kernel_rfl
@[go_sem ↓] theorem ex_ld_bulletin_sha256_Half (ρ : Operand → Value) (dst : Option Tmp) (x : Operand) (ty : TypeId) (pos : String) (aft : Array Edge) (gd : Option (Nat × Bool)) :
    execOp ρ ⟨dst, .load 96 x, ty, pos, aft, gd⟩ = (do pure (.value (← ld 96 (ρ x)))) := rfl
@[go_sem] theorem run_ld_bulletin_sha256_Half (w : World) (b o : Nat) (h : (ldA w b o 16).isSome = true) :
    (ld 96 (.pointer (some ⟨b, o, none⟩))).run Try.prog w = .ok (.agg ((ldA w b o 16).getD #[])) w := run_ld w Try.underlying96 rfl info_bulletin_sha256_Half b o h
@[go_sem ↓] theorem ex_st_bulletin_sha256_Half (ρ : Operand → Value) (dst : Option Tmp) (x y : Operand) (ty : TypeId) (pos : String) (aft : Array Edge) (gd : Option (Nat × Bool)) :
    execOp ρ ⟨dst, .store 96 x y, ty, pos, aft, gd⟩ = (do st 96 (ρ x) (ρ y); pure .skip) := rfl
@[go_sem] theorem run_st_bulletin_sha256_Half (w : World) (b o : Nat) (cs : Array Value) (hs : cs.size = 16) (h1 : cs.all (·.oneCell') = true) (h : okA w b o 16 = true) :
    (st 96 (.pointer (some ⟨b, o, none⟩)) (.agg cs)).run Try.prog w = .ok () (putW w b o cs) := run_st w cs (by rw [info_bulletin_sha256_Half, hs]) h1 b o (by rw [hs]; exact h)
@[go_sem ↓] theorem ex_eq_bulletin_sha256_Half (x y : Value) : binOp .eql 96 x y = eqv 96 x y := rfl
@[go_sem ↓] theorem ex_ne_bulletin_sha256_Half (x y : Value) : binOp .neq 96 x y = nev 96 x y := rfl
theorem guard_bulletin_sha256_Half : Try.prog.eqGuardType Try.prog.depth 96 = false := by kernel_rfl
@[go_sem] theorem run_guard_bulletin_sha256_Half (w : World) (op : BinOp) (x y : Operand) (xs ys : Array Value) : (eqGuard op 96 x y (.agg xs) (.agg ys)).run Try.prog w = .ok () w := run_eqGuard_agg w op _ x y xs ys guard_bulletin_sha256_Half
theorem val_bulletin_sha256_Half (cs : List Value) : valOf Try.prog 96 cs = .agg cs.toArray := by simp only [valOf, Try.underlying96]
theorem info__16_uint8 : (Try.prog.info? 23).map (·.size) = some 16 := by kernel_rfl
@[go_sem ↓] theorem ex_ld__16_uint8 (ρ : Operand → Value) (dst : Option Tmp) (x : Operand) (ty : TypeId) (pos : String) (aft : Array Edge) (gd : Option (Nat × Bool)) :
    execOp ρ ⟨dst, .load 23 x, ty, pos, aft, gd⟩ = (do pure (.value (← ld 23 (ρ x)))) := rfl
@[go_sem] theorem run_ld__16_uint8 (w : World) (b o : Nat) (h : (ldA w b o 16).isSome = true) :
    (ld 23 (.pointer (some ⟨b, o, none⟩))).run Try.prog w = .ok (.agg ((ldA w b o 16).getD #[])) w := run_ld w Try.underlying23 rfl info__16_uint8 b o h
@[go_sem ↓] theorem ex_st__16_uint8 (ρ : Operand → Value) (dst : Option Tmp) (x y : Operand) (ty : TypeId) (pos : String) (aft : Array Edge) (gd : Option (Nat × Bool)) :
    execOp ρ ⟨dst, .store 23 x y, ty, pos, aft, gd⟩ = (do st 23 (ρ x) (ρ y); pure .skip) := rfl
@[go_sem] theorem run_st__16_uint8 (w : World) (b o : Nat) (cs : Array Value) (hs : cs.size = 16) (h1 : cs.all (·.oneCell') = true) (h : okA w b o 16 = true) :
    (st 23 (.pointer (some ⟨b, o, none⟩)) (.agg cs)).run Try.prog w = .ok () (putW w b o cs) := run_st w cs (by rw [info__16_uint8, hs]) h1 b o (by rw [hs]; exact h)
@[go_sem ↓] theorem ex_eq__16_uint8 (x y : Value) : binOp .eql 23 x y = eqv 23 x y := rfl
@[go_sem ↓] theorem ex_ne__16_uint8 (x y : Value) : binOp .neq 23 x y = nev 23 x y := rfl
theorem guard__16_uint8 : Try.prog.eqGuardType Try.prog.depth 23 = false := by kernel_rfl
@[go_sem] theorem run_guard__16_uint8 (w : World) (op : BinOp) (x y : Operand) (xs ys : Array Value) : (eqGuard op 23 x y (.agg xs) (.agg ys)).run Try.prog w = .ok () w := run_eqGuard_agg w op _ x y xs ys guard__16_uint8
theorem val__16_uint8 (cs : List Value) : valOf Try.prog 23 cs = .agg cs.toArray := by simp only [valOf, Try.underlying23]
@[go_sem ↓] theorem ex_bsl___uint8 (ρ : Operand → Value) (dst : Option Tmp) (n : Nat) (ps : Array (Nat × Operand)) (ty : TypeId) (pos : String) (aft : Array Edge) (gd : Option (Nat × Bool)) :
    execOp ρ ⟨dst, .buildSlice 22 n ps, ty, pos, aft, gd⟩ = (do pure (.value (← bsl 22 n (ps.map fun (i, x) => (i, ρ x))))) := rfl
end Go.Proofs.Ytnholkjgdpapbaa
