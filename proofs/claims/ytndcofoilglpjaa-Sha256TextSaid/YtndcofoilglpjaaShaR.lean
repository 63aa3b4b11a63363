/- SHA-256: rules of the walk for this chapter's aggregates. Written by gen_rules.py. No condition. -/
import Derived.Test.YtndcofoilglpjaaAggB
import Derived.Test.YtndcofoilglpjaaProg
namespace Go.Proofs.Ytndcofoilglpjaa
set_option linter.unusedVariables false
set_option linter.unusedSimpArgs false
open Go.RowKit
theorem info_bulletin_sha256_words : (Try.prog.info? 59).map (·.size) = some 8 := by kernel_rfl
@[go_sem ↓] theorem ex_ld_bulletin_sha256_words (ρ : Operand → Value) (dst : Option Tmp) (x : Operand) (ty : TypeId) (pos : String) (aft : Array Edge) (gd : Option (Nat × Bool)) :
    execOp ρ ⟨dst, .load 59 x, ty, pos, aft, gd⟩ = (do pure (.value (← ld 59 (ρ x)))) := rfl
@[go_sem] theorem run_ld_bulletin_sha256_words (w : World) (b o : Nat) (h : (ldA w b o 8).isSome = true) :
    (ld 59 (.pointer (some ⟨b, o, none⟩))).run Try.prog w = .ok (.agg ((ldA w b o 8).getD #[])) w := run_ld w Try.underlying59 rfl info_bulletin_sha256_words b o h
@[go_sem ↓] theorem ex_st_bulletin_sha256_words (ρ : Operand → Value) (dst : Option Tmp) (x y : Operand) (ty : TypeId) (pos : String) (aft : Array Edge) (gd : Option (Nat × Bool)) :
    execOp ρ ⟨dst, .store 59 x y, ty, pos, aft, gd⟩ = (do st 59 (ρ x) (ρ y); pure .skip) := rfl
@[go_sem] theorem run_st_bulletin_sha256_words (w : World) (b o : Nat) (cs : Array Value) (hs : cs.size = 8) (h1 : cs.all (·.oneCell') = true) (h : okA w b o 8 = true) :
    (st 59 (.pointer (some ⟨b, o, none⟩)) (.agg cs)).run Try.prog w = .ok () (putW w b o cs) := run_st w cs (by rw [info_bulletin_sha256_words, hs]) h1 b o (by rw [hs]; exact h)
@[go_sem ↓] theorem ex_bd_bulletin_sha256_words (ρ : Operand → Value) (dst : Option Tmp) (ps : Array (Nat × Operand)) (ty : TypeId) (pos : String) (aft : Array Edge) (gd : Option (Nat × Bool)) :
    execOp ρ ⟨dst, .build 59 ps, ty, pos, aft, gd⟩ = (do pure (.value (← bd 59 (ps.map fun (i, x) => (i, ρ x))))) := rfl
theorem info_bulletin_sha256_block : (Try.prog.info? 71).map (·.size) = some 16 := by kernel_rfl
@[go_sem ↓] theorem ex_ld_bulletin_sha256_block (ρ : Operand → Value) (dst : Option Tmp) (x : Operand) (ty : TypeId) (pos : String) (aft : Array Edge) (gd : Option (Nat × Bool)) :
    execOp ρ ⟨dst, .load 71 x, ty, pos, aft, gd⟩ = (do pure (.value (← ld 71 (ρ x)))) := rfl
@[go_sem] theorem run_ld_bulletin_sha256_block (w : World) (b o : Nat) (h : (ldA w b o 16).isSome = true) :
    (ld 71 (.pointer (some ⟨b, o, none⟩))).run Try.prog w = .ok (.agg ((ldA w b o 16).getD #[])) w := run_ld w Try.underlying71 rfl info_bulletin_sha256_block b o h
@[go_sem ↓] theorem ex_st_bulletin_sha256_block (ρ : Operand → Value) (dst : Option Tmp) (x y : Operand) (ty : TypeId) (pos : String) (aft : Array Edge) (gd : Option (Nat × Bool)) :
    execOp ρ ⟨dst, .store 71 x y, ty, pos, aft, gd⟩ = (do st 71 (ρ x) (ρ y); pure .skip) := rfl
@[go_sem] theorem run_st_bulletin_sha256_block (w : World) (b o : Nat) (cs : Array Value) (hs : cs.size = 16) (h1 : cs.all (·.oneCell') = true) (h : okA w b o 16 = true) :
    (st 71 (.pointer (some ⟨b, o, none⟩)) (.agg cs)).run Try.prog w = .ok () (putW w b o cs) := run_st w cs (by rw [info_bulletin_sha256_block, hs]) h1 b o (by rw [hs]; exact h)
theorem info__64_uint32 : (Try.prog.info? 54).map (·.size) = some 64 := by kernel_rfl
@[go_sem ↓] theorem ex_ld__64_uint32 (ρ : Operand → Value) (dst : Option Tmp) (x : Operand) (ty : TypeId) (pos : String) (aft : Array Edge) (gd : Option (Nat × Bool)) :
    execOp ρ ⟨dst, .load 54 x, ty, pos, aft, gd⟩ = (do pure (.value (← ld 54 (ρ x)))) := rfl
@[go_sem] theorem run_ld__64_uint32 (w : World) (b o : Nat) (h : (ldA w b o 64).isSome = true) :
    (ld 54 (.pointer (some ⟨b, o, none⟩))).run Try.prog w = .ok (.agg ((ldA w b o 64).getD #[])) w := run_ld w Try.underlying54 rfl info__64_uint32 b o h
@[go_sem ↓] theorem ex_st__64_uint32 (ρ : Operand → Value) (dst : Option Tmp) (x y : Operand) (ty : TypeId) (pos : String) (aft : Array Edge) (gd : Option (Nat × Bool)) :
    execOp ρ ⟨dst, .store 54 x y, ty, pos, aft, gd⟩ = (do st 54 (ρ x) (ρ y); pure .skip) := rfl
@[go_sem] theorem run_st__64_uint32 (w : World) (b o : Nat) (cs : Array Value) (hs : cs.size = 64) (h1 : cs.all (·.oneCell') = true) (h : okA w b o 64 = true) :
    (st 54 (.pointer (some ⟨b, o, none⟩)) (.agg cs)).run Try.prog w = .ok () (putW w b o cs) := run_st w cs (by rw [info__64_uint32, hs]) h1 b o (by rw [hs]; exact h)
@[go_sem ↓] theorem ex_bd__64_uint32 (ρ : Operand → Value) (dst : Option Tmp) (ps : Array (Nat × Operand)) (ty : TypeId) (pos : String) (aft : Array Edge) (gd : Option (Nat × Bool)) :
    execOp ρ ⟨dst, .build 54 ps, ty, pos, aft, gd⟩ = (do pure (.value (← bd 54 (ps.map fun (i, x) => (i, ρ x))))) := rfl
theorem info__8_uint32 : (Try.prog.info? 53).map (·.size) = some 8 := by kernel_rfl
@[go_sem ↓] theorem ex_ld__8_uint32 (ρ : Operand → Value) (dst : Option Tmp) (x : Operand) (ty : TypeId) (pos : String) (aft : Array Edge) (gd : Option (Nat × Bool)) :
    execOp ρ ⟨dst, .load 53 x, ty, pos, aft, gd⟩ = (do pure (.value (← ld 53 (ρ x)))) := rfl
@[go_sem] theorem run_ld__8_uint32 (w : World) (b o : Nat) (h : (ldA w b o 8).isSome = true) :
    (ld 53 (.pointer (some ⟨b, o, none⟩))).run Try.prog w = .ok (.agg ((ldA w b o 8).getD #[])) w := run_ld w Try.underlying53 rfl info__8_uint32 b o h
@[go_sem ↓] theorem ex_st__8_uint32 (ρ : Operand → Value) (dst : Option Tmp) (x y : Operand) (ty : TypeId) (pos : String) (aft : Array Edge) (gd : Option (Nat × Bool)) :
    execOp ρ ⟨dst, .store 53 x y, ty, pos, aft, gd⟩ = (do st 53 (ρ x) (ρ y); pure .skip) := rfl
@[go_sem] theorem run_st__8_uint32 (w : World) (b o : Nat) (cs : Array Value) (hs : cs.size = 8) (h1 : cs.all (·.oneCell') = true) (h : okA w b o 8 = true) :
    (st 53 (.pointer (some ⟨b, o, none⟩)) (.agg cs)).run Try.prog w = .ok () (putW w b o cs) := run_st w cs (by rw [info__8_uint32, hs]) h1 b o (by rw [hs]; exact h)
@[go_sem ↓] theorem ex_bd__8_uint32 (ρ : Operand → Value) (dst : Option Tmp) (ps : Array (Nat × Operand)) (ty : TypeId) (pos : String) (aft : Array Edge) (gd : Option (Nat × Bool)) :
    execOp ρ ⟨dst, .build 53 ps, ty, pos, aft, gd⟩ = (do pure (.value (← bd 53 (ps.map fun (i, x) => (i, ρ x))))) := rfl
theorem info_bulletin_sha256_Hash : (Try.prog.info? 62).map (·.size) = some 11 := by kernel_rfl
@[go_sem ↓] theorem ex_ld_bulletin_sha256_Hash (ρ : Operand → Value) (dst : Option Tmp) (x : Operand) (ty : TypeId) (pos : String) (aft : Array Edge) (gd : Option (Nat × Bool)) :
    execOp ρ ⟨dst, .load 62 x, ty, pos, aft, gd⟩ = (do pure (.value (← ld 62 (ρ x)))) := rfl
@[go_sem] theorem run_ld_bulletin_sha256_Hash (w : World) (b o : Nat) (h : (ldA w b o 11).isSome = true) :
    (ld 62 (.pointer (some ⟨b, o, none⟩))).run Try.prog w = .ok (.agg ((ldA w b o 11).getD #[])) w := run_ld w Try.underlying62 rfl info_bulletin_sha256_Hash b o h
@[go_sem ↓] theorem ex_st_bulletin_sha256_Hash (ρ : Operand → Value) (dst : Option Tmp) (x y : Operand) (ty : TypeId) (pos : String) (aft : Array Edge) (gd : Option (Nat × Bool)) :
    execOp ρ ⟨dst, .store 62 x y, ty, pos, aft, gd⟩ = (do st 62 (ρ x) (ρ y); pure .skip) := rfl
@[go_sem] theorem run_st_bulletin_sha256_Hash (w : World) (b o : Nat) (cs : Array Value) (hs : cs.size = 11) (h1 : cs.all (·.oneCell') = true) (h : okA w b o 11 = true) :
    (st 62 (.pointer (some ⟨b, o, none⟩)) (.agg cs)).run Try.prog w = .ok () (putW w b o cs) := run_st w cs (by rw [info_bulletin_sha256_Hash, hs]) h1 b o (by rw [hs]; exact h)
@[go_sem ↓] theorem ex_bd_bulletin_sha256_Hash (ρ : Operand → Value) (dst : Option Tmp) (ps : Array (Nat × Operand)) (ty : TypeId) (pos : String) (aft : Array Edge) (gd : Option (Nat × Bool)) :
    execOp ρ ⟨dst, .build 62 ps, ty, pos, aft, gd⟩ = (do pure (.value (← bd 62 (ps.map fun (i, x) => (i, ρ x))))) := rfl
theorem info_bulletin_sha256_Digest : (Try.prog.info? 25).map (·.size) = some 32 := by kernel_rfl
@[go_sem ↓] theorem ex_ld_bulletin_sha256_Digest (ρ : Operand → Value) (dst : Option Tmp) (x : Operand) (ty : TypeId) (pos : String) (aft : Array Edge) (gd : Option (Nat × Bool)) :
    execOp ρ ⟨dst, .load 25 x, ty, pos, aft, gd⟩ = (do pure (.value (← ld 25 (ρ x)))) := rfl
@[go_sem] theorem run_ld_bulletin_sha256_Digest (w : World) (b o : Nat) (h : (ldA w b o 32).isSome = true) :
    (ld 25 (.pointer (some ⟨b, o, none⟩))).run Try.prog w = .ok (.agg ((ldA w b o 32).getD #[])) w := run_ld w Try.underlying25 rfl info_bulletin_sha256_Digest b o h
@[go_sem ↓] theorem ex_st_bulletin_sha256_Digest (ρ : Operand → Value) (dst : Option Tmp) (x y : Operand) (ty : TypeId) (pos : String) (aft : Array Edge) (gd : Option (Nat × Bool)) :
    execOp ρ ⟨dst, .store 25 x y, ty, pos, aft, gd⟩ = (do st 25 (ρ x) (ρ y); pure .skip) := rfl
@[go_sem] theorem run_st_bulletin_sha256_Digest (w : World) (b o : Nat) (cs : Array Value) (hs : cs.size = 32) (h1 : cs.all (·.oneCell') = true) (h : okA w b o 32 = true) :
    (st 25 (.pointer (some ⟨b, o, none⟩)) (.agg cs)).run Try.prog w = .ok () (putW w b o cs) := run_st w cs (by rw [info_bulletin_sha256_Digest, hs]) h1 b o (by rw [hs]; exact h)
@[go_sem ↓] theorem ex_eq_bulletin_sha256_Digest (x y : Value) : binOp .eql 25 x y = eqv 25 x y := rfl
@[go_sem ↓] theorem ex_ne_bulletin_sha256_Digest (x y : Value) : binOp .neq 25 x y = nev 25 x y := rfl
theorem guard_bulletin_sha256_Digest : Try.prog.eqGuardType Try.prog.depth 25 = false := by kernel_rfl
@[go_sem] theorem run_guard_bulletin_sha256_Digest (w : World) (op : BinOp) (x y : Operand) (xs ys : Array Value) : (eqGuard op 25 x y (.agg xs) (.agg ys)).run Try.prog w = .ok () w := run_eqGuard_agg w op _ x y xs ys guard_bulletin_sha256_Digest
theorem val_bulletin_sha256_Digest (cs : List Value) : valOf Try.prog 25 cs = .agg cs.toArray := by simp only [valOf, Try.underlying25]
@[go_sem ↓] theorem ex_bd_bulletin_sha256_Digest (ρ : Operand → Value) (dst : Option Tmp) (ps : Array (Nat × Operand)) (ty : TypeId) (pos : String) (aft : Array Edge) (gd : Option (Nat × Bool)) :
    execOp ρ ⟨dst, .build 25 ps, ty, pos, aft, gd⟩ = (do pure (.value (← bd 25 (ps.map fun (i, x) => (i, ρ x))))) := rfl
theorem info__32_uint8 : (Try.prog.info? 24).map (·.size) = some 32 := by kernel_rfl
@[go_sem ↓] theorem ex_ld__32_uint8 (ρ : Operand → Value) (dst : Option Tmp) (x : Operand) (ty : TypeId) (pos : String) (aft : Array Edge) (gd : Option (Nat × Bool)) :
    execOp ρ ⟨dst, .load 24 x, ty, pos, aft, gd⟩ = (do pure (.value (← ld 24 (ρ x)))) := rfl
@[go_sem] theorem run_ld__32_uint8 (w : World) (b o : Nat) (h : (ldA w b o 32).isSome = true) :
    (ld 24 (.pointer (some ⟨b, o, none⟩))).run Try.prog w = .ok (.agg ((ldA w b o 32).getD #[])) w := run_ld w Try.underlying24 rfl info__32_uint8 b o h
@[go_sem ↓] theorem ex_st__32_uint8 (ρ : Operand → Value) (dst : Option Tmp) (x y : Operand) (ty : TypeId) (pos : String) (aft : Array Edge) (gd : Option (Nat × Bool)) :
    execOp ρ ⟨dst, .store 24 x y, ty, pos, aft, gd⟩ = (do st 24 (ρ x) (ρ y); pure .skip) := rfl
@[go_sem] theorem run_st__32_uint8 (w : World) (b o : Nat) (cs : Array Value) (hs : cs.size = 32) (h1 : cs.all (·.oneCell') = true) (h : okA w b o 32 = true) :
    (st 24 (.pointer (some ⟨b, o, none⟩)) (.agg cs)).run Try.prog w = .ok () (putW w b o cs) := run_st w cs (by rw [info__32_uint8, hs]) h1 b o (by rw [hs]; exact h)
@[go_sem ↓] theorem ex_eq__32_uint8 (x y : Value) : binOp .eql 24 x y = eqv 24 x y := rfl
@[go_sem ↓] theorem ex_ne__32_uint8 (x y : Value) : binOp .neq 24 x y = nev 24 x y := rfl
theorem guard__32_uint8 : Try.prog.eqGuardType Try.prog.depth 24 = false := by kernel_rfl
@[go_sem] theorem run_guard__32_uint8 (w : World) (op : BinOp) (x y : Operand) (xs ys : Array Value) : (eqGuard op 24 x y (.agg xs) (.agg ys)).run Try.prog w = .ok () w := run_eqGuard_agg w op _ x y xs ys guard__32_uint8
theorem val__32_uint8 (cs : List Value) : valOf Try.prog 24 cs = .agg cs.toArray := by simp only [valOf, Try.underlying24]
theorem info_bulletin_sha256_Half : (Try.prog.info? 37).map (·.size) = some 16 := by kernel_rfl
@[go_sem ↓] theorem ex_ld_bulletin_sha256_Half (ρ : Operand → Value) (dst : Option Tmp) (x : Operand) (ty : TypeId) (pos : String) (aft : Array Edge) (gd : Option (Nat × Bool)) :
    execOp ρ ⟨dst, .load 37 x, ty, pos, aft, gd⟩ = (do pure (.value (← ld 37 (ρ x)))) := rfl
@[go_sem] theorem run_ld_bulletin_sha256_Half (w : World) (b o : Nat) (h : (ldA w b o 16).isSome = true) :
    (ld 37 (.pointer (some ⟨b, o, none⟩))).run Try.prog w = .ok (.agg ((ldA w b o 16).getD #[])) w := run_ld w Try.underlying37 rfl info_bulletin_sha256_Half b o h
@[go_sem ↓] theorem ex_st_bulletin_sha256_Half (ρ : Operand → Value) (dst : Option Tmp) (x y : Operand) (ty : TypeId) (pos : String) (aft : Array Edge) (gd : Option (Nat × Bool)) :
    execOp ρ ⟨dst, .store 37 x y, ty, pos, aft, gd⟩ = (do st 37 (ρ x) (ρ y); pure .skip) := rfl
@[go_sem] theorem run_st_bulletin_sha256_Half (w : World) (b o : Nat) (cs : Array Value) (hs : cs.size = 16) (h1 : cs.all (·.oneCell') = true) (h : okA w b o 16 = true) :
    (st 37 (.pointer (some ⟨b, o, none⟩)) (.agg cs)).run Try.prog w = .ok () (putW w b o cs) := run_st w cs (by rw [info_bulletin_sha256_Half, hs]) h1 b o (by rw [hs]; exact h)
@[go_sem ↓] theorem ex_eq_bulletin_sha256_Half (x y : Value) : binOp .eql 37 x y = eqv 37 x y := rfl
@[go_sem ↓] theorem ex_ne_bulletin_sha256_Half (x y : Value) : binOp .neq 37 x y = nev 37 x y := rfl
theorem guard_bulletin_sha256_Half : Try.prog.eqGuardType Try.prog.depth 37 = false := by kernel_rfl
@[go_sem] theorem run_guard_bulletin_sha256_Half (w : World) (op : BinOp) (x y : Operand) (xs ys : Array Value) : (eqGuard op 37 x y (.agg xs) (.agg ys)).run Try.prog w = .ok () w := run_eqGuard_agg w op _ x y xs ys guard_bulletin_sha256_Half
theorem val_bulletin_sha256_Half (cs : List Value) : valOf Try.prog 37 cs = .agg cs.toArray := by simp only [valOf, Try.underlying37]
theorem info__16_uint8 : (Try.prog.info? 36).map (·.size) = some 16 := by kernel_rfl
@[go_sem ↓] theorem ex_ld__16_uint8 (ρ : Operand → Value) (dst : Option Tmp) (x : Operand) (ty : TypeId) (pos : String) (aft : Array Edge) (gd : Option (Nat × Bool)) :
    execOp ρ ⟨dst, .load 36 x, ty, pos, aft, gd⟩ = (do pure (.value (← ld 36 (ρ x)))) := rfl
@[go_sem] theorem run_ld__16_uint8 (w : World) (b o : Nat) (h : (ldA w b o 16).isSome = true) :
    (ld 36 (.pointer (some ⟨b, o, none⟩))).run Try.prog w = .ok (.agg ((ldA w b o 16).getD #[])) w := run_ld w Try.underlying36 rfl info__16_uint8 b o h
@[go_sem ↓] theorem ex_st__16_uint8 (ρ : Operand → Value) (dst : Option Tmp) (x y : Operand) (ty : TypeId) (pos : String) (aft : Array Edge) (gd : Option (Nat × Bool)) :
    execOp ρ ⟨dst, .store 36 x y, ty, pos, aft, gd⟩ = (do st 36 (ρ x) (ρ y); pure .skip) := rfl
@[go_sem] theorem run_st__16_uint8 (w : World) (b o : Nat) (cs : Array Value) (hs : cs.size = 16) (h1 : cs.all (·.oneCell') = true) (h : okA w b o 16 = true) :
    (st 36 (.pointer (some ⟨b, o, none⟩)) (.agg cs)).run Try.prog w = .ok () (putW w b o cs) := run_st w cs (by rw [info__16_uint8, hs]) h1 b o (by rw [hs]; exact h)
@[go_sem ↓] theorem ex_eq__16_uint8 (x y : Value) : binOp .eql 36 x y = eqv 36 x y := rfl
@[go_sem ↓] theorem ex_ne__16_uint8 (x y : Value) : binOp .neq 36 x y = nev 36 x y := rfl
theorem guard__16_uint8 : Try.prog.eqGuardType Try.prog.depth 36 = false := by kernel_rfl
@[go_sem] theorem run_guard__16_uint8 (w : World) (op : BinOp) (x y : Operand) (xs ys : Array Value) : (eqGuard op 36 x y (.agg xs) (.agg ys)).run Try.prog w = .ok () w := run_eqGuard_agg w op _ x y xs ys guard__16_uint8
theorem val__16_uint8 (cs : List Value) : valOf Try.prog 36 cs = .agg cs.toArray := by simp only [valOf, Try.underlying36]
@[go_sem ↓] theorem ex_bsl___uint8 (ρ : Operand → Value) (dst : Option Tmp) (n : Nat) (ps : Array (Nat × Operand)) (ty : TypeId) (pos : String) (aft : Array Edge) (gd : Option (Nat × Bool)) :
    execOp ρ ⟨dst, .buildSlice 22 n ps, ty, pos, aft, gd⟩ = (do pure (.value (← bsl 22 n (ps.map fun (i, x) => (i, ρ x))))) := rfl
end Go.Proofs.Ytndcofoilglpjaa
