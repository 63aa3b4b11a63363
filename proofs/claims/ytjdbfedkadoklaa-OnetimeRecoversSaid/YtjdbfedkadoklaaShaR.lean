/- SHA-256: rules of the walk for this chapter's aggregates. Written by gen_rules.py. No condition. -/
import Derived.Test.YtjdbfedkadoklaaAggB
import Derived.Test.YtjdbfedkadoklaaProg
namespace Go.Proofs.Ytjdbfedkadoklaa
set_option linter.unusedVariables false
set_option linter.unusedSimpArgs false
open Go.RowKit
theorem info_bulletin_sha256_words : (Try.prog.info? 101).map (·.size) = some 8 := by kernel_rfl
@[go_sem ↓] theorem ex_ld_bulletin_sha256_words (ρ : Operand → Value) (dst : Option Tmp) (x : Operand) (ty : TypeId) (pos : String) (aft : Array Edge) (gd : Option (Nat × Bool)) :
    execOp ρ ⟨dst, .load 101 x, ty, pos, aft, gd⟩ = (do pure (.value (← ld 101 (ρ x)))) := rfl
@[go_sem] theorem run_ld_bulletin_sha256_words (w : World) (b o : Nat) (h : (ldA w b o 8).isSome = true) :
    (ld 101 (.pointer (some ⟨b, o, none⟩))).run Try.prog w = .ok (.agg ((ldA w b o 8).getD #[])) w := run_ld w Try.underlying101 rfl info_bulletin_sha256_words b o h
@[go_sem ↓] theorem ex_st_bulletin_sha256_words (ρ : Operand → Value) (dst : Option Tmp) (x y : Operand) (ty : TypeId) (pos : String) (aft : Array Edge) (gd : Option (Nat × Bool)) :
    execOp ρ ⟨dst, .store 101 x y, ty, pos, aft, gd⟩ = (do st 101 (ρ x) (ρ y); pure .skip) := rfl
@[go_sem] theorem run_st_bulletin_sha256_words (w : World) (b o : Nat) (cs : Array Value) (hs : cs.size = 8) (h1 : cs.all (·.oneCell') = true) (h : okA w b o 8 = true) :
    (st 101 (.pointer (some ⟨b, o, none⟩)) (.agg cs)).run Try.prog w = .ok () (putW w b o cs) := run_st w cs (by rw [info_bulletin_sha256_words, hs]) h1 b o (by rw [hs]; exact h)
@[go_sem ↓] theorem ex_bd_bulletin_sha256_words (ρ : Operand → Value) (dst : Option Tmp) (ps : Array (Nat × Operand)) (ty : TypeId) (pos : String) (aft : Array Edge) (gd : Option (Nat × Bool)) :
    execOp ρ ⟨dst, .build 101 ps, ty, pos, aft, gd⟩ = (do pure (.value (← bd 101 (ps.map fun (i, x) => (i, ρ x))))) := rfl
theorem info_bulletin_sha256_block : (Try.prog.info? 108).map (·.size) = some 16 := by kernel_rfl
@[go_sem ↓] theorem ex_ld_bulletin_sha256_block (ρ : Operand → Value) (dst : Option Tmp) (x : Operand) (ty : TypeId) (pos : String) (aft : Array Edge) (gd : Option (Nat × Bool)) :
    execOp ρ ⟨dst, .load 108 x, ty, pos, aft, gd⟩ = (do pure (.value (← ld 108 (ρ x)))) := rfl
@[go_sem] theorem run_ld_bulletin_sha256_block (w : World) (b o : Nat) (h : (ldA w b o 16).isSome = true) :
    (ld 108 (.pointer (some ⟨b, o, none⟩))).run Try.prog w = .ok (.agg ((ldA w b o 16).getD #[])) w := run_ld w Try.underlying108 rfl info_bulletin_sha256_block b o h
@[go_sem ↓] theorem ex_st_bulletin_sha256_block (ρ : Operand → Value) (dst : Option Tmp) (x y : Operand) (ty : TypeId) (pos : String) (aft : Array Edge) (gd : Option (Nat × Bool)) :
    execOp ρ ⟨dst, .store 108 x y, ty, pos, aft, gd⟩ = (do st 108 (ρ x) (ρ y); pure .skip) := rfl
@[go_sem] theorem run_st_bulletin_sha256_block (w : World) (b o : Nat) (cs : Array Value) (hs : cs.size = 16) (h1 : cs.all (·.oneCell') = true) (h : okA w b o 16 = true) :
    (st 108 (.pointer (some ⟨b, o, none⟩)) (.agg cs)).run Try.prog w = .ok () (putW w b o cs) := run_st w cs (by rw [info_bulletin_sha256_block, hs]) h1 b o (by rw [hs]; exact h)
theorem info__64_uint32 : (Try.prog.info? 88).map (·.size) = some 64 := by kernel_rfl
@[go_sem ↓] theorem ex_ld__64_uint32 (ρ : Operand → Value) (dst : Option Tmp) (x : Operand) (ty : TypeId) (pos : String) (aft : Array Edge) (gd : Option (Nat × Bool)) :
    execOp ρ ⟨dst, .load 88 x, ty, pos, aft, gd⟩ = (do pure (.value (← ld 88 (ρ x)))) := rfl
@[go_sem] theorem run_ld__64_uint32 (w : World) (b o : Nat) (h : (ldA w b o 64).isSome = true) :
    (ld 88 (.pointer (some ⟨b, o, none⟩))).run Try.prog w = .ok (.agg ((ldA w b o 64).getD #[])) w := run_ld w Try.underlying88 rfl info__64_uint32 b o h
@[go_sem ↓] theorem ex_st__64_uint32 (ρ : Operand → Value) (dst : Option Tmp) (x y : Operand) (ty : TypeId) (pos : String) (aft : Array Edge) (gd : Option (Nat × Bool)) :
    execOp ρ ⟨dst, .store 88 x y, ty, pos, aft, gd⟩ = (do st 88 (ρ x) (ρ y); pure .skip) := rfl
@[go_sem] theorem run_st__64_uint32 (w : World) (b o : Nat) (cs : Array Value) (hs : cs.size = 64) (h1 : cs.all (·.oneCell') = true) (h : okA w b o 64 = true) :
    (st 88 (.pointer (some ⟨b, o, none⟩)) (.agg cs)).run Try.prog w = .ok () (putW w b o cs) := run_st w cs (by rw [info__64_uint32, hs]) h1 b o (by rw [hs]; exact h)
@[go_sem ↓] theorem ex_bd__64_uint32 (ρ : Operand → Value) (dst : Option Tmp) (ps : Array (Nat × Operand)) (ty : TypeId) (pos : String) (aft : Array Edge) (gd : Option (Nat × Bool)) :
    execOp ρ ⟨dst, .build 88 ps, ty, pos, aft, gd⟩ = (do pure (.value (← bd 88 (ps.map fun (i, x) => (i, ρ x))))) := rfl
theorem info__8_uint32 : (Try.prog.info? 87).map (·.size) = some 8 := by kernel_rfl
@[go_sem ↓] theorem ex_ld__8_uint32 (ρ : Operand → Value) (dst : Option Tmp) (x : Operand) (ty : TypeId) (pos : String) (aft : Array Edge) (gd : Option (Nat × Bool)) :
    execOp ρ ⟨dst, .load 87 x, ty, pos, aft, gd⟩ = (do pure (.value (← ld 87 (ρ x)))) := rfl
@[go_sem] theorem run_ld__8_uint32 (w : World) (b o : Nat) (h : (ldA w b o 8).isSome = true) :
    (ld 87 (.pointer (some ⟨b, o, none⟩))).run Try.prog w = .ok (.agg ((ldA w b o 8).getD #[])) w := run_ld w Try.underlying87 rfl info__8_uint32 b o h
@[go_sem ↓] theorem ex_st__8_uint32 (ρ : Operand → Value) (dst : Option Tmp) (x y : Operand) (ty : TypeId) (pos : String) (aft : Array Edge) (gd : Option (Nat × Bool)) :
    execOp ρ ⟨dst, .store 87 x y, ty, pos, aft, gd⟩ = (do st 87 (ρ x) (ρ y); pure .skip) := rfl
@[go_sem] theorem run_st__8_uint32 (w : World) (b o : Nat) (cs : Array Value) (hs : cs.size = 8) (h1 : cs.all (·.oneCell') = true) (h : okA w b o 8 = true) :
    (st 87 (.pointer (some ⟨b, o, none⟩)) (.agg cs)).run Try.prog w = .ok () (putW w b o cs) := run_st w cs (by rw [info__8_uint32, hs]) h1 b o (by rw [hs]; exact h)
@[go_sem ↓] theorem ex_bd__8_uint32 (ρ : Operand → Value) (dst : Option Tmp) (ps : Array (Nat × Operand)) (ty : TypeId) (pos : String) (aft : Array Edge) (gd : Option (Nat × Bool)) :
    execOp ρ ⟨dst, .build 87 ps, ty, pos, aft, gd⟩ = (do pure (.value (← bd 87 (ps.map fun (i, x) => (i, ρ x))))) := rfl
theorem info_bulletin_sha256_Hash : (Try.prog.info? 104).map (·.size) = some 11 := by kernel_rfl
@[go_sem ↓] theorem ex_ld_bulletin_sha256_Hash (ρ : Operand → Value) (dst : Option Tmp) (x : Operand) (ty : TypeId) (pos : String) (aft : Array Edge) (gd : Option (Nat × Bool)) :
    execOp ρ ⟨dst, .load 104 x, ty, pos, aft, gd⟩ = (do pure (.value (← ld 104 (ρ x)))) := rfl
@[go_sem] theorem run_ld_bulletin_sha256_Hash (w : World) (b o : Nat) (h : (ldA w b o 11).isSome = true) :
    (ld 104 (.pointer (some ⟨b, o, none⟩))).run Try.prog w = .ok (.agg ((ldA w b o 11).getD #[])) w := run_ld w Try.underlying104 rfl info_bulletin_sha256_Hash b o h
@[go_sem ↓] theorem ex_st_bulletin_sha256_Hash (ρ : Operand → Value) (dst : Option Tmp) (x y : Operand) (ty : TypeId) (pos : String) (aft : Array Edge) (gd : Option (Nat × Bool)) :
    execOp ρ ⟨dst, .store 104 x y, ty, pos, aft, gd⟩ = (do st 104 (ρ x) (ρ y); pure .skip) := rfl
@[go_sem] theorem run_st_bulletin_sha256_Hash (w : World) (b o : Nat) (cs : Array Value) (hs : cs.size = 11) (h1 : cs.all (·.oneCell') = true) (h : okA w b o 11 = true) :
    (st 104 (.pointer (some ⟨b, o, none⟩)) (.agg cs)).run Try.prog w = .ok () (putW w b o cs) := run_st w cs (by rw [info_bulletin_sha256_Hash, hs]) h1 b o (by rw [hs]; exact h)
@[go_sem ↓] theorem ex_bd_bulletin_sha256_Hash (ρ : Operand → Value) (dst : Option Tmp) (ps : Array (Nat × Operand)) (ty : TypeId) (pos : String) (aft : Array Edge) (gd : Option (Nat × Bool)) :
    execOp ρ ⟨dst, .build 104 ps, ty, pos, aft, gd⟩ = (do pure (.value (← bd 104 (ps.map fun (i, x) => (i, ρ x))))) := rfl
theorem info_bulletin_sha256_Digest : (Try.prog.info? 93).map (·.size) = some 32 := by kernel_rfl
@[go_sem ↓] theorem ex_ld_bulletin_sha256_Digest (ρ : Operand → Value) (dst : Option Tmp) (x : Operand) (ty : TypeId) (pos : String) (aft : Array Edge) (gd : Option (Nat × Bool)) :
    execOp ρ ⟨dst, .load 93 x, ty, pos, aft, gd⟩ = (do pure (.value (← ld 93 (ρ x)))) := rfl
@[go_sem] theorem run_ld_bulletin_sha256_Digest (w : World) (b o : Nat) (h : (ldA w b o 32).isSome = true) :
    (ld 93 (.pointer (some ⟨b, o, none⟩))).run Try.prog w = .ok (.agg ((ldA w b o 32).getD #[])) w := run_ld w Try.underlying93 rfl info_bulletin_sha256_Digest b o h
@[go_sem ↓] theorem ex_st_bulletin_sha256_Digest (ρ : Operand → Value) (dst : Option Tmp) (x y : Operand) (ty : TypeId) (pos : String) (aft : Array Edge) (gd : Option (Nat × Bool)) :
    execOp ρ ⟨dst, .store 93 x y, ty, pos, aft, gd⟩ = (do st 93 (ρ x) (ρ y); pure .skip) := rfl
@[go_sem] theorem run_st_bulletin_sha256_Digest (w : World) (b o : Nat) (cs : Array Value) (hs : cs.size = 32) (h1 : cs.all (·.oneCell') = true) (h : okA w b o 32 = true) :
    (st 93 (.pointer (some ⟨b, o, none⟩)) (.agg cs)).run Try.prog w = .ok () (putW w b o cs) := run_st w cs (by rw [info_bulletin_sha256_Digest, hs]) h1 b o (by rw [hs]; exact h)
@[go_sem ↓] theorem ex_eq_bulletin_sha256_Digest (x y : Value) : binOp .eql 93 x y = eqv 93 x y := rfl
@[go_sem ↓] theorem ex_ne_bulletin_sha256_Digest (x y : Value) : binOp .neq 93 x y = nev 93 x y := rfl
theorem guard_bulletin_sha256_Digest : Try.prog.eqGuardType Try.prog.depth 93 = false := by kernel_rfl
@[go_sem] theorem run_guard_bulletin_sha256_Digest (w : World) (op : BinOp) (x y : Operand) (xs ys : Array Value) : (eqGuard op 93 x y (.agg xs) (.agg ys)).run Try.prog w = .ok () w := run_eqGuard_agg w op _ x y xs ys guard_bulletin_sha256_Digest
theorem val_bulletin_sha256_Digest (cs : List Value) : valOf Try.prog 93 cs = .agg cs.toArray := by simp only [valOf, Try.underlying93]
@[go_sem ↓] theorem ex_bd_bulletin_sha256_Digest (ρ : Operand → Value) (dst : Option Tmp) (ps : Array (Nat × Operand)) (ty : TypeId) (pos : String) (aft : Array Edge) (gd : Option (Nat × Bool)) :
    execOp ρ ⟨dst, .build 93 ps, ty, pos, aft, gd⟩ = (do pure (.value (← bd 93 (ps.map fun (i, x) => (i, ρ x))))) := rfl
theorem info__32_uint8 : (Try.prog.info? 31).map (·.size) = some 32 := by kernel_rfl
@[go_sem ↓] theorem ex_ld__32_uint8 (ρ : Operand → Value) (dst : Option Tmp) (x : Operand) (ty : TypeId) (pos : String) (aft : Array Edge) (gd : Option (Nat × Bool)) :
    execOp ρ ⟨dst, .load 31 x, ty, pos, aft, gd⟩ = (do pure (.value (← ld 31 (ρ x)))) := rfl
@[go_sem] theorem run_ld__32_uint8 (w : World) (b o : Nat) (h : (ldA w b o 32).isSome = true) :
    (ld 31 (.pointer (some ⟨b, o, none⟩))).run Try.prog w = .ok (.agg ((ldA w b o 32).getD #[])) w := run_ld w Try.underlying31 rfl info__32_uint8 b o h
@[go_sem ↓] theorem ex_st__32_uint8 (ρ : Operand → Value) (dst : Option Tmp) (x y : Operand) (ty : TypeId) (pos : String) (aft : Array Edge) (gd : Option (Nat × Bool)) :
    execOp ρ ⟨dst, .store 31 x y, ty, pos, aft, gd⟩ = (do st 31 (ρ x) (ρ y); pure .skip) := rfl
@[go_sem] theorem run_st__32_uint8 (w : World) (b o : Nat) (cs : Array Value) (hs : cs.size = 32) (h1 : cs.all (·.oneCell') = true) (h : okA w b o 32 = true) :
    (st 31 (.pointer (some ⟨b, o, none⟩)) (.agg cs)).run Try.prog w = .ok () (putW w b o cs) := run_st w cs (by rw [info__32_uint8, hs]) h1 b o (by rw [hs]; exact h)
@[go_sem ↓] theorem ex_eq__32_uint8 (x y : Value) : binOp .eql 31 x y = eqv 31 x y := rfl
@[go_sem ↓] theorem ex_ne__32_uint8 (x y : Value) : binOp .neq 31 x y = nev 31 x y := rfl
theorem guard__32_uint8 : Try.prog.eqGuardType Try.prog.depth 31 = false := by kernel_rfl
@[go_sem] theorem run_guard__32_uint8 (w : World) (op : BinOp) (x y : Operand) (xs ys : Array Value) : (eqGuard op 31 x y (.agg xs) (.agg ys)).run Try.prog w = .ok () w := run_eqGuard_agg w op _ x y xs ys guard__32_uint8
theorem val__32_uint8 (cs : List Value) : valOf Try.prog 31 cs = .agg cs.toArray := by simp only [valOf, Try.underlying31]
theorem info_bulletin_sha256_Half : (Try.prog.info? 84).map (·.size) = some 16 := by kernel_rfl
@[go_sem ↓] theorem ex_ld_bulletin_sha256_Half (ρ : Operand → Value) (dst : Option Tmp) (x : Operand) (ty : TypeId) (pos : String) (aft : Array Edge) (gd : Option (Nat × Bool)) :
    execOp ρ ⟨dst, .load 84 x, ty, pos, aft, gd⟩ = (do pure (.value (← ld 84 (ρ x)))) := rfl
@[go_sem] theorem run_ld_bulletin_sha256_Half (w : World) (b o : Nat) (h : (ldA w b o 16).isSome = true) :
    (ld 84 (.pointer (some ⟨b, o, none⟩))).run Try.prog w = .ok (.agg ((ldA w b o 16).getD #[])) w := run_ld w Try.underlying84 rfl info_bulletin_sha256_Half b o h
@[go_sem ↓] theorem ex_st_bulletin_sha256_Half (ρ : Operand → Value) (dst : Option Tmp) (x y : Operand) (ty : TypeId) (pos : String) (aft : Array Edge) (gd : Option (Nat × Bool)) :
    execOp ρ ⟨dst, .store 84 x y, ty, pos, aft, gd⟩ = (do st 84 (ρ x) (ρ y); pure .skip) := rfl
@[go_sem] theorem run_st_bulletin_sha256_Half (w : World) (b o : Nat) (cs : Array Value) (hs : cs.size = 16) (h1 : cs.all (·.oneCell') = true) (h : okA w b o 16 = true) :
    (st 84 (.pointer (some ⟨b, o, none⟩)) (.agg cs)).run Try.prog w = .ok () (putW w b o cs) := run_st w cs (by rw [info_bulletin_sha256_Half, hs]) h1 b o (by rw [hs]; exact h)
@[go_sem ↓] theorem ex_eq_bulletin_sha256_Half (x y : Value) : binOp .eql 84 x y = eqv 84 x y := rfl
@[go_sem ↓] theorem ex_ne_bulletin_sha256_Half (x y : Value) : binOp .neq 84 x y = nev 84 x y := rfl
theorem guard_bulletin_sha256_Half : Try.prog.eqGuardType Try.prog.depth 84 = false := by kernel_rfl
@[go_sem] theorem run_guard_bulletin_sha256_Half (w : World) (op : BinOp) (x y : Operand) (xs ys : Array Value) : (eqGuard op 84 x y (.agg xs) (.agg ys)).run Try.prog w = .ok () w := run_eqGuard_agg w op _ x y xs ys guard_bulletin_sha256_Half
theorem val_bulletin_sha256_Half (cs : List Value) : valOf Try.prog 84 cs = .agg cs.toArray := by simp only [valOf, Try.underlying84]
theorem info__16_uint8 : (Try.prog.info? 22).map (·.size) = some 16 := by kernel_rfl
@[go_sem ↓] theorem ex_ld__16_uint8 (ρ : Operand → Value) (dst : Option Tmp) (x : Operand) (ty : TypeId) (pos : String) (aft : Array Edge) (gd : Option (Nat × Bool)) :
    execOp ρ ⟨dst, .load 22 x, ty, pos, aft, gd⟩ = (do pure (.value (← ld 22 (ρ x)))) := rfl
@[go_sem] theorem run_ld__16_uint8 (w : World) (b o : Nat) (h : (ldA w b o 16).isSome = true) :
    (ld 22 (.pointer (some ⟨b, o, none⟩))).run Try.prog w = .ok (.agg ((ldA w b o 16).getD #[])) w := run_ld w Try.underlying22 rfl info__16_uint8 b o h
@[go_sem ↓] theorem ex_st__16_uint8 (ρ : Operand → Value) (dst : Option Tmp) (x y : Operand) (ty : TypeId) (pos : String) (aft : Array Edge) (gd : Option (Nat × Bool)) :
    execOp ρ ⟨dst, .store 22 x y, ty, pos, aft, gd⟩ = (do st 22 (ρ x) (ρ y); pure .skip) := rfl
@[go_sem] theorem run_st__16_uint8 (w : World) (b o : Nat) (cs : Array Value) (hs : cs.size = 16) (h1 : cs.all (·.oneCell') = true) (h : okA w b o 16 = true) :
    (st 22 (.pointer (some ⟨b, o, none⟩)) (.agg cs)).run Try.prog w = .ok () (putW w b o cs) := run_st w cs (by rw [info__16_uint8, hs]) h1 b o (by rw [hs]; exact h)
@[go_sem ↓] theorem ex_eq__16_uint8 (x y : Value) : binOp .eql 22 x y = eqv 22 x y := rfl
@[go_sem ↓] theorem ex_ne__16_uint8 (x y : Value) : binOp .neq 22 x y = nev 22 x y := rfl
theorem guard__16_uint8 : Try.prog.eqGuardType Try.prog.depth 22 = false := by kernel_rfl
@[go_sem] theorem run_guard__16_uint8 (w : World) (op : BinOp) (x y : Operand) (xs ys : Array Value) : (eqGuard op 22 x y (.agg xs) (.agg ys)).run Try.prog w = .ok () w := run_eqGuard_agg w op _ x y xs ys guard__16_uint8
theorem val__16_uint8 (cs : List Value) : valOf Try.prog 22 cs = .agg cs.toArray := by simp only [valOf, Try.underlying22]
@[go_sem ↓] theorem ex_bsl___uint8 (ρ : Operand → Value) (dst : Option Tmp) (n : Nat) (ps : Array (Nat × Operand)) (ty : TypeId) (pos : String) (aft : Array Edge) (gd : Option (Nat × Bool)) :
    execOp ρ ⟨dst, .buildSlice 73 n ps, ty, pos, aft, gd⟩ = (do pure (.value (← bsl 73 n (ps.map fun (i, x) => (i, ρ x))))) := rfl
end Go.Proofs.Ytjdbfedkadoklaa
