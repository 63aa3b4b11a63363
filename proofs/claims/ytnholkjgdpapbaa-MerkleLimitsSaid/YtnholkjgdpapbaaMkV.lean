/- Chapter 06: nodes, pairs, collisions, builders as values. No condition. -/
import Derived.Test.YtnholkjgdpapbaaEnc
import Derived.Test.YtnholkjgdpapbaaHalf
import Derived.Test.YtnholkjgdpapbaaMk
namespace Go.Proofs.Ytnholkjgdpapbaa
set_option linter.unusedVariables false
set_option linter.unusedSimpArgs false
set_option maxRecDepth 10000
open Go.RowKit

abbrev Nd : Type := By 16
def z16N : Nd := ⟨List.replicate 16 0, by simp⟩
def z32N : By 32 := ⟨List.replicate 32 0, by simp⟩
/-- Two nodes. -/
def e2 : Enc (Nd × Nd) 32 := eP (eB 16) (eB 16)
def z2N : Nd × Nd := (z16N, z16N)
theorem e2_fits (p : Nd × Nd) : Fits (List.replicate 32 (.int .u8)) (e2.f p) := by
  have := (eB_fits p.1).append (eB_fits p.2)
  rwa [List.replicate_append_replicate] at this
/-- A level and two pairs of nodes. -/
abbrev TwoN : Type := Int × (Nd × Nd) × (Nd × Nd)
instance decTwo : DecidableEq (Nd × Nd) := fun a b => if h : a.1 = b.1 ∧ a.2 = b.2 then isTrue (Prod.ext h.1 h.2) else isFalse (fun e => h ⟨by rw [e], by rw [e]⟩)
instance decFour : DecidableEq ((Nd × Nd) × (Nd × Nd)) := fun a b => if h : a.1 = b.1 ∧ a.2 = b.2 then isTrue (Prod.ext h.1 h.2) else isFalse (fun e => h ⟨by rw [e], by rw [e]⟩)
instance decTwoN : DecidableEq TwoN := fun a b => if h : a.1 = b.1 ∧ a.2 = b.2 then isTrue (Prod.ext h.1 h.2) else isFalse (fun e => h ⟨by rw [e], by rw [e]⟩)
def eT : Enc TwoN 65 := eP (eI .i64) (eP e2 e2)
def zTN : TwoN := (0, z2N, z2N)
theorem eT_fits (p : TwoN) : Fits (.int .i64 :: List.replicate 64 (.int .u8)) (eT.f p) := by
  have h := (e2_fits p.2.1).append (e2_fits p.2.2)
  rw [List.replicate_append_replicate] at h
  exact .cons rfl h
def z352 : By 352 := ⟨List.replicate 352 0, by simp⟩
/-- A builder: the bytes of its nodes, and how many leaves it has. -/
def eBd : Enc (By 176 × Int) 177 := eP (eB 176) (eI .i64)
def zBd : By 176 × Int := (⟨List.replicate 176 0, by simp⟩, 0)
theorem einfo_bulletin_merkle_Node : (Try.prog.info? 27).map (·.size) = some 16 := by kernel_rfl
@[go_sem ↓] theorem eex_ld_bulletin_merkle_Node (ρ : Operand → Value) (dst : Option Tmp) (x : Operand) (ty : TypeId) (pos : String) (aft : Array Edge) (gd : Option (Nat × Bool)) : execOp ρ ⟨dst, .load 27 x, ty, pos, aft, gd⟩ = (do pure (.value (← ld 27 (ρ x)))) := rfl
@[go_sem] theorem erun_ld_bulletin_merkle_Node (w : World) (b o : Nat) (h : ((eB 16).at_ w b o).isSome = true) : (ld 27 (.pointer (some ⟨b, o, none⟩))).run Try.prog w = .ok ((eB 16).v (((eB 16).at_ w b o).getD default)) w := run_ldE (eB 16) w Try.underlying27 rfl einfo_bulletin_merkle_Node b o h
@[go_sem ↓] theorem eex_st_bulletin_merkle_Node (ρ : Operand → Value) (dst : Option Tmp) (x y : Operand) (ty : TypeId) (pos : String) (aft : Array Edge) (gd : Option (Nat × Bool)) : execOp ρ ⟨dst, .store 27 x y, ty, pos, aft, gd⟩ = (do st 27 (ρ x) (ρ y); pure .skip) := rfl
@[go_sem] theorem erun_st_bulletin_merkle_Node (w : World) (b o : Nat) (a) (h : okA w b o 16 = true) : (st 27 (.pointer (some ⟨b, o, none⟩)) ((eB 16).v a)).run Try.prog w = .ok () ((eB 16).put w b o a) := run_stE (eB 16) w einfo_bulletin_merkle_Node b o a h
@[go_sem ↓] theorem eex_bx_bulletin_merkle_Node (ρ : Operand → Value) (dst : Option Tmp) (x : Operand) (ty : TypeId) (pos : String) (aft : Array Edge) (gd : Option (Nat × Bool)) : execOp ρ ⟨dst, .box 27 x, ty, pos, aft, gd⟩ = (do pure (.value (← bx 27 (ρ x)))) := rfl
@[go_sem] theorem erun_bx_bulletin_merkle_Node (w : World) (a) : (bx 27 ((eB 16).v a)).run Try.prog w = .ok (.pointer (some ⟨w.heap.size, 0, none⟩)) ((eB 16).new 27 w a) := run_bxE (eB 16) w 27 a
@[go_sem ↓] theorem eex_al_bulletin_merkle_Node (ρ : Operand → Value) (dst : Option Tmp) (ty : TypeId) (pos : String) (aft : Array Edge) (gd : Option (Nat × Bool)) : execOp ρ ⟨dst, .alloc 27, ty, pos, aft, gd⟩ = (do pure (.value (← al 27))) := rfl
theorem ezi_bulletin_merkle_Node : (match Try.prog.info? 27 with | some i => i.zero.isSome | none => false) = true := by kernel_rfl
theorem ezz_bulletin_merkle_Node : zeroTail Try.prog 27 0 = ((eB 16).f z16N).toArray := by kernel_rfl
@[go_sem] theorem erun_al_bulletin_merkle_Node (w : World) : (al 27).run Try.prog w = .ok (.pointer (some ⟨w.heap.size, 0, none⟩)) ((eB 16).new 27 w z16N) := run_alE (eB 16) w ezi_bulletin_merkle_Node _ ezz_bulletin_merkle_Node
@[go_sem ↓] theorem eex_bd_bulletin_merkle_Node (ρ : Operand → Value) (dst : Option Tmp) (ps : Array (Nat × Operand)) (ty : TypeId) (pos : String) (aft : Array Edge) (gd : Option (Nat × Bool)) : execOp ρ ⟨dst, .build 27 ps, ty, pos, aft, gd⟩ = (do pure (.value (← bd 27 (ps.map fun (i, x) => (i, ρ x))))) := rfl
@[go_sem] theorem erun_bd0_bulletin_merkle_Node (w : World) : (bd 27 #[]).run Try.prog w = .ok ((eB 16).v z16N) w := by kernel_rfl
@[go_sem ↓] theorem eex_eq_bulletin_merkle_Node (x y : Value) : binOp .eql 27 x y = eqv 27 x y := rfl
@[go_sem ↓] theorem eex_ne_bulletin_merkle_Node (x y : Value) : binOp .neq 27 x y = nev 27 x y := rfl
theorem eguard_bulletin_merkle_Node : Try.prog.eqGuardType Try.prog.depth 27 = false := by kernel_rfl
@[go_sem] theorem erun_guard_bulletin_merkle_Node (w : World) (op : BinOp) (x y : Operand) (a b) : (eqGuard op 27 x y ((eB 16).v a) ((eB 16).v b)).run Try.prog w = .ok () w := run_eqGuard_agg w op _ x y _ _ eguard_bulletin_merkle_Node
theorem eval_bulletin_merkle_Node (cs : List Value) : valOf Try.prog 27 cs = .agg cs.toArray := by simp only [valOf, Try.underlying27]
theorem ekinds_bulletin_merkle_Node : kindsOf Try.prog 9 27 = some (List.replicate 16 (.int .u8)) := by kernel_rfl
@[go_sem] theorem erun_eq_bulletin_merkle_Node (w : World) (a b) : (eqv 27 ((eB 16).v a) ((eB 16).v b)).run Try.prog w = .ok (.bool (decide (a = b))) w := run_eqE (eB 16) w ekinds_bulletin_merkle_Node (by omega) eval_bulletin_merkle_Node (eB_fits) a b
@[go_sem] theorem erun_ne_bulletin_merkle_Node (w : World) (a b) : (nev 27 ((eB 16).v a) ((eB 16).v b)).run Try.prog w = .ok (.bool (!decide (a = b))) w := run_neE (eB 16) w ekinds_bulletin_merkle_Node (by omega) eval_bulletin_merkle_Node (eB_fits) a b
@[go_sem ↓] theorem eex_bsl___merkle_Node (ρ : Operand → Value) (dst : Option Tmp) (n : Nat) (ps : Array (Nat × Operand)) (ty : TypeId) (pos : String) (aft : Array Edge) (gd : Option (Nat × Bool)) : execOp ρ ⟨dst, .buildSlice 41 n ps, ty, pos, aft, gd⟩ = (do pure (.value (← bsl 41 n (ps.map fun (i, x) => (i, ρ x))))) := rfl
theorem eslok___merkle_Node : sliceOk Try.prog 41 27 16 = true := by kernel_rfl
@[go_sem] theorem erun_bsl1___merkle_Node (w : World) (a) : (bsl 41 1 #[(0, (eB 16).v a)]).run Try.prog w = .ok (.slice (some ⟨w.heap.size, 0, none⟩) 1 1) ((eB 16).new 27 w a) := run_bslE (eB 16) w eslok___merkle_Node a
@[go_sem] theorem erun_bsl2___merkle_Node (w : World) (a b) : (bsl 41 2 #[(0, (eB 16).v a), (1, (eB 16).v b)]).run Try.prog w = .ok (.slice (some ⟨w.heap.size, 0, none⟩) 2 2) ((eB 16).newL 27 w [a, b]) := run_bslE2 (eB 16) w eslok___merkle_Node a b
@[go_sem] theorem erun_bsl0___merkle_Node (w : World) : (bsl 41 0 #[]).run Try.prog w = .ok (.slice (some ⟨w.heap.size, 0, none⟩) 0 0) (w.alloc (.cells #[] 27)) := by kernel_rfl
@[go_sem] theorem erun_nil___merkle_Node (w : World) (a : Option Addr) (n c : Nat) : (binOp .eql 41 (.slice a n c) (.slice none 0 0)).run Try.prog w = .ok (.bool a.isNone) w := by rw [Lib.run_eql_slice_nil w _ _ a n c 0 0 Try.underlying41]
theorem eapok___merkle_Node : appOk Try.prog 41 27 16 16 = true := by kernel_rfl
theorem einfo_bulletin_bulletinref06_N : (Try.prog.info? 24).map (·.size) = some 16 := by kernel_rfl
@[go_sem ↓] theorem eex_ld_bulletin_bulletinref06_N (ρ : Operand → Value) (dst : Option Tmp) (x : Operand) (ty : TypeId) (pos : String) (aft : Array Edge) (gd : Option (Nat × Bool)) : execOp ρ ⟨dst, .load 24 x, ty, pos, aft, gd⟩ = (do pure (.value (← ld 24 (ρ x)))) := rfl
@[go_sem] theorem erun_ld_bulletin_bulletinref06_N (w : World) (b o : Nat) (h : ((eB 16).at_ w b o).isSome = true) : (ld 24 (.pointer (some ⟨b, o, none⟩))).run Try.prog w = .ok ((eB 16).v (((eB 16).at_ w b o).getD default)) w := run_ldE (eB 16) w Try.underlying24 rfl einfo_bulletin_bulletinref06_N b o h
@[go_sem ↓] theorem eex_st_bulletin_bulletinref06_N (ρ : Operand → Value) (dst : Option Tmp) (x y : Operand) (ty : TypeId) (pos : String) (aft : Array Edge) (gd : Option (Nat × Bool)) : execOp ρ ⟨dst, .store 24 x y, ty, pos, aft, gd⟩ = (do st 24 (ρ x) (ρ y); pure .skip) := rfl
@[go_sem] theorem erun_st_bulletin_bulletinref06_N (w : World) (b o : Nat) (a) (h : okA w b o 16 = true) : (st 24 (.pointer (some ⟨b, o, none⟩)) ((eB 16).v a)).run Try.prog w = .ok () ((eB 16).put w b o a) := run_stE (eB 16) w einfo_bulletin_bulletinref06_N b o a h
@[go_sem ↓] theorem eex_bx_bulletin_bulletinref06_N (ρ : Operand → Value) (dst : Option Tmp) (x : Operand) (ty : TypeId) (pos : String) (aft : Array Edge) (gd : Option (Nat × Bool)) : execOp ρ ⟨dst, .box 24 x, ty, pos, aft, gd⟩ = (do pure (.value (← bx 24 (ρ x)))) := rfl
@[go_sem] theorem erun_bx_bulletin_bulletinref06_N (w : World) (a) : (bx 24 ((eB 16).v a)).run Try.prog w = .ok (.pointer (some ⟨w.heap.size, 0, none⟩)) ((eB 16).new 24 w a) := run_bxE (eB 16) w 24 a
@[go_sem ↓] theorem eex_al_bulletin_bulletinref06_N (ρ : Operand → Value) (dst : Option Tmp) (ty : TypeId) (pos : String) (aft : Array Edge) (gd : Option (Nat × Bool)) : execOp ρ ⟨dst, .alloc 24, ty, pos, aft, gd⟩ = (do pure (.value (← al 24))) := rfl
theorem ezi_bulletin_bulletinref06_N : (match Try.prog.info? 24 with | some i => i.zero.isSome | none => false) = true := by kernel_rfl
theorem ezz_bulletin_bulletinref06_N : zeroTail Try.prog 24 0 = ((eB 16).f z16N).toArray := by kernel_rfl
@[go_sem] theorem erun_al_bulletin_bulletinref06_N (w : World) : (al 24).run Try.prog w = .ok (.pointer (some ⟨w.heap.size, 0, none⟩)) ((eB 16).new 24 w z16N) := run_alE (eB 16) w ezi_bulletin_bulletinref06_N _ ezz_bulletin_bulletinref06_N
@[go_sem ↓] theorem eex_bd_bulletin_bulletinref06_N (ρ : Operand → Value) (dst : Option Tmp) (ps : Array (Nat × Operand)) (ty : TypeId) (pos : String) (aft : Array Edge) (gd : Option (Nat × Bool)) : execOp ρ ⟨dst, .build 24 ps, ty, pos, aft, gd⟩ = (do pure (.value (← bd 24 (ps.map fun (i, x) => (i, ρ x))))) := rfl
@[go_sem] theorem erun_bd0_bulletin_bulletinref06_N (w : World) : (bd 24 #[]).run Try.prog w = .ok ((eB 16).v z16N) w := by kernel_rfl
@[go_sem ↓] theorem eex_eq_bulletin_bulletinref06_N (x y : Value) : binOp .eql 24 x y = eqv 24 x y := rfl
@[go_sem ↓] theorem eex_ne_bulletin_bulletinref06_N (x y : Value) : binOp .neq 24 x y = nev 24 x y := rfl
theorem eguard_bulletin_bulletinref06_N : Try.prog.eqGuardType Try.prog.depth 24 = false := by kernel_rfl
@[go_sem] theorem erun_guard_bulletin_bulletinref06_N (w : World) (op : BinOp) (x y : Operand) (a b) : (eqGuard op 24 x y ((eB 16).v a) ((eB 16).v b)).run Try.prog w = .ok () w := run_eqGuard_agg w op _ x y _ _ eguard_bulletin_bulletinref06_N
theorem eval_bulletin_bulletinref06_N (cs : List Value) : valOf Try.prog 24 cs = .agg cs.toArray := by simp only [valOf, Try.underlying24]
theorem ekinds_bulletin_bulletinref06_N : kindsOf Try.prog 9 24 = some (List.replicate 16 (.int .u8)) := by kernel_rfl
@[go_sem] theorem erun_eq_bulletin_bulletinref06_N (w : World) (a b) : (eqv 24 ((eB 16).v a) ((eB 16).v b)).run Try.prog w = .ok (.bool (decide (a = b))) w := run_eqE (eB 16) w ekinds_bulletin_bulletinref06_N (by omega) eval_bulletin_bulletinref06_N (eB_fits) a b
@[go_sem] theorem erun_ne_bulletin_bulletinref06_N (w : World) (a b) : (nev 24 ((eB 16).v a) ((eB 16).v b)).run Try.prog w = .ok (.bool (!decide (a = b))) w := run_neE (eB 16) w ekinds_bulletin_bulletinref06_N (by omega) eval_bulletin_bulletinref06_N (eB_fits) a b
@[go_sem ↓] theorem eex_bsl___bulletinref06_N (ρ : Operand → Value) (dst : Option Tmp) (n : Nat) (ps : Array (Nat × Operand)) (ty : TypeId) (pos : String) (aft : Array Edge) (gd : Option (Nat × Bool)) : execOp ρ ⟨dst, .buildSlice 33 n ps, ty, pos, aft, gd⟩ = (do pure (.value (← bsl 33 n (ps.map fun (i, x) => (i, ρ x))))) := rfl
theorem eslok___bulletinref06_N : sliceOk Try.prog 33 24 16 = true := by kernel_rfl
@[go_sem] theorem erun_bsl1___bulletinref06_N (w : World) (a) : (bsl 33 1 #[(0, (eB 16).v a)]).run Try.prog w = .ok (.slice (some ⟨w.heap.size, 0, none⟩) 1 1) ((eB 16).new 24 w a) := run_bslE (eB 16) w eslok___bulletinref06_N a
@[go_sem] theorem erun_bsl2___bulletinref06_N (w : World) (a b) : (bsl 33 2 #[(0, (eB 16).v a), (1, (eB 16).v b)]).run Try.prog w = .ok (.slice (some ⟨w.heap.size, 0, none⟩) 2 2) ((eB 16).newL 24 w [a, b]) := run_bslE2 (eB 16) w eslok___bulletinref06_N a b
@[go_sem] theorem erun_bsl0___bulletinref06_N (w : World) : (bsl 33 0 #[]).run Try.prog w = .ok (.slice (some ⟨w.heap.size, 0, none⟩) 0 0) (w.alloc (.cells #[] 24)) := by kernel_rfl
@[go_sem] theorem erun_nil___bulletinref06_N (w : World) (a : Option Addr) (n c : Nat) : (binOp .eql 33 (.slice a n c) (.slice none 0 0)).run Try.prog w = .ok (.bool a.isNone) w := by rw [Lib.run_eql_slice_nil w _ _ a n c 0 0 Try.underlying33]
theorem eapok___bulletinref06_N : appOk Try.prog 33 24 16 16 = true := by kernel_rfl
theorem einfo__2_bulletinref06_N : (Try.prog.info? 25).map (·.size) = some 32 := by kernel_rfl
@[go_sem ↓] theorem eex_ld__2_bulletinref06_N (ρ : Operand → Value) (dst : Option Tmp) (x : Operand) (ty : TypeId) (pos : String) (aft : Array Edge) (gd : Option (Nat × Bool)) : execOp ρ ⟨dst, .load 25 x, ty, pos, aft, gd⟩ = (do pure (.value (← ld 25 (ρ x)))) := rfl
@[go_sem] theorem erun_ld__2_bulletinref06_N (w : World) (b o : Nat) (h : (e2.at_ w b o).isSome = true) : (ld 25 (.pointer (some ⟨b, o, none⟩))).run Try.prog w = .ok (e2.v ((e2.at_ w b o).getD default)) w := run_ldE e2 w Try.underlying25 rfl einfo__2_bulletinref06_N b o h
@[go_sem ↓] theorem eex_st__2_bulletinref06_N (ρ : Operand → Value) (dst : Option Tmp) (x y : Operand) (ty : TypeId) (pos : String) (aft : Array Edge) (gd : Option (Nat × Bool)) : execOp ρ ⟨dst, .store 25 x y, ty, pos, aft, gd⟩ = (do st 25 (ρ x) (ρ y); pure .skip) := rfl
@[go_sem] theorem erun_st__2_bulletinref06_N (w : World) (b o : Nat) (a) (h : okA w b o 32 = true) : (st 25 (.pointer (some ⟨b, o, none⟩)) (e2.v a)).run Try.prog w = .ok () (e2.put w b o a) := run_stE e2 w einfo__2_bulletinref06_N b o a h
@[go_sem ↓] theorem eex_bx__2_bulletinref06_N (ρ : Operand → Value) (dst : Option Tmp) (x : Operand) (ty : TypeId) (pos : String) (aft : Array Edge) (gd : Option (Nat × Bool)) : execOp ρ ⟨dst, .box 25 x, ty, pos, aft, gd⟩ = (do pure (.value (← bx 25 (ρ x)))) := rfl
@[go_sem] theorem erun_bx__2_bulletinref06_N (w : World) (a) : (bx 25 (e2.v a)).run Try.prog w = .ok (.pointer (some ⟨w.heap.size, 0, none⟩)) (e2.new 25 w a) := run_bxE e2 w 25 a
@[go_sem ↓] theorem eex_al__2_bulletinref06_N (ρ : Operand → Value) (dst : Option Tmp) (ty : TypeId) (pos : String) (aft : Array Edge) (gd : Option (Nat × Bool)) : execOp ρ ⟨dst, .alloc 25, ty, pos, aft, gd⟩ = (do pure (.value (← al 25))) := rfl
theorem ezi__2_bulletinref06_N : (match Try.prog.info? 25 with | some i => i.zero.isSome | none => false) = true := by kernel_rfl
theorem ezz__2_bulletinref06_N : zeroTail Try.prog 25 0 = (e2.f z2N).toArray := by kernel_rfl
@[go_sem] theorem erun_al__2_bulletinref06_N (w : World) : (al 25).run Try.prog w = .ok (.pointer (some ⟨w.heap.size, 0, none⟩)) (e2.new 25 w z2N) := run_alE e2 w ezi__2_bulletinref06_N _ ezz__2_bulletinref06_N
@[go_sem ↓] theorem eex_eq__2_bulletinref06_N (x y : Value) : binOp .eql 25 x y = eqv 25 x y := rfl
@[go_sem ↓] theorem eex_ne__2_bulletinref06_N (x y : Value) : binOp .neq 25 x y = nev 25 x y := rfl
theorem eguard__2_bulletinref06_N : Try.prog.eqGuardType Try.prog.depth 25 = false := by kernel_rfl
@[go_sem] theorem erun_guard__2_bulletinref06_N (w : World) (op : BinOp) (x y : Operand) (a b) : (eqGuard op 25 x y (e2.v a) (e2.v b)).run Try.prog w = .ok () w := run_eqGuard_agg w op _ x y _ _ eguard__2_bulletinref06_N
theorem eval__2_bulletinref06_N (cs : List Value) : valOf Try.prog 25 cs = .agg cs.toArray := by simp only [valOf, Try.underlying25]
theorem ekinds__2_bulletinref06_N : kindsOf Try.prog 9 25 = some (List.replicate 32 (.int .u8)) := by kernel_rfl
@[go_sem] theorem erun_eq__2_bulletinref06_N (w : World) (a b) : (eqv 25 (e2.v a) (e2.v b)).run Try.prog w = .ok (.bool (decide (a = b))) w := run_eqE e2 w ekinds__2_bulletinref06_N (by omega) eval__2_bulletinref06_N (e2_fits) a b
@[go_sem] theorem erun_ne__2_bulletinref06_N (w : World) (a b) : (nev 25 (e2.v a) (e2.v b)).run Try.prog w = .ok (.bool (!decide (a = b))) w := run_neE e2 w ekinds__2_bulletinref06_N (by omega) eval__2_bulletinref06_N (e2_fits) a b
@[go_sem ↓] theorem eex_bsl____2_bulletinref06_N (ρ : Operand → Value) (dst : Option Tmp) (n : Nat) (ps : Array (Nat × Operand)) (ty : TypeId) (pos : String) (aft : Array Edge) (gd : Option (Nat × Bool)) : execOp ρ ⟨dst, .buildSlice 61 n ps, ty, pos, aft, gd⟩ = (do pure (.value (← bsl 61 n (ps.map fun (i, x) => (i, ρ x))))) := rfl
theorem eslok____2_bulletinref06_N : sliceOk Try.prog 61 25 32 = true := by kernel_rfl
@[go_sem] theorem erun_bsl1____2_bulletinref06_N (w : World) (a) : (bsl 61 1 #[(0, e2.v a)]).run Try.prog w = .ok (.slice (some ⟨w.heap.size, 0, none⟩) 1 1) (e2.new 25 w a) := run_bslE e2 w eslok____2_bulletinref06_N a
@[go_sem] theorem erun_bsl2____2_bulletinref06_N (w : World) (a b) : (bsl 61 2 #[(0, e2.v a), (1, e2.v b)]).run Try.prog w = .ok (.slice (some ⟨w.heap.size, 0, none⟩) 2 2) (e2.newL 25 w [a, b]) := run_bslE2 e2 w eslok____2_bulletinref06_N a b
@[go_sem] theorem erun_bsl0____2_bulletinref06_N (w : World) : (bsl 61 0 #[]).run Try.prog w = .ok (.slice (some ⟨w.heap.size, 0, none⟩) 0 0) (w.alloc (.cells #[] 25)) := by kernel_rfl
@[go_sem] theorem erun_nil____2_bulletinref06_N (w : World) (a : Option Addr) (n c : Nat) : (binOp .eql 61 (.slice a n c) (.slice none 0 0)).run Try.prog w = .ok (.bool a.isNone) w := by rw [Lib.run_eql_slice_nil w _ _ a n c 0 0 Try.underlying61]
theorem eapok____2_bulletinref06_N : appOk Try.prog 61 25 32 32 = true := by kernel_rfl
theorem einfo__2_merkle_Node : (Try.prog.info? 36).map (·.size) = some 32 := by kernel_rfl
@[go_sem ↓] theorem eex_ld__2_merkle_Node (ρ : Operand → Value) (dst : Option Tmp) (x : Operand) (ty : TypeId) (pos : String) (aft : Array Edge) (gd : Option (Nat × Bool)) : execOp ρ ⟨dst, .load 36 x, ty, pos, aft, gd⟩ = (do pure (.value (← ld 36 (ρ x)))) := rfl
@[go_sem] theorem erun_ld__2_merkle_Node (w : World) (b o : Nat) (h : (e2.at_ w b o).isSome = true) : (ld 36 (.pointer (some ⟨b, o, none⟩))).run Try.prog w = .ok (e2.v ((e2.at_ w b o).getD default)) w := run_ldE e2 w Try.underlying36 rfl einfo__2_merkle_Node b o h
@[go_sem ↓] theorem eex_st__2_merkle_Node (ρ : Operand → Value) (dst : Option Tmp) (x y : Operand) (ty : TypeId) (pos : String) (aft : Array Edge) (gd : Option (Nat × Bool)) : execOp ρ ⟨dst, .store 36 x y, ty, pos, aft, gd⟩ = (do st 36 (ρ x) (ρ y); pure .skip) := rfl
@[go_sem] theorem erun_st__2_merkle_Node (w : World) (b o : Nat) (a) (h : okA w b o 32 = true) : (st 36 (.pointer (some ⟨b, o, none⟩)) (e2.v a)).run Try.prog w = .ok () (e2.put w b o a) := run_stE e2 w einfo__2_merkle_Node b o a h
@[go_sem ↓] theorem eex_bx__2_merkle_Node (ρ : Operand → Value) (dst : Option Tmp) (x : Operand) (ty : TypeId) (pos : String) (aft : Array Edge) (gd : Option (Nat × Bool)) : execOp ρ ⟨dst, .box 36 x, ty, pos, aft, gd⟩ = (do pure (.value (← bx 36 (ρ x)))) := rfl
@[go_sem] theorem erun_bx__2_merkle_Node (w : World) (a) : (bx 36 (e2.v a)).run Try.prog w = .ok (.pointer (some ⟨w.heap.size, 0, none⟩)) (e2.new 36 w a) := run_bxE e2 w 36 a
@[go_sem ↓] theorem eex_al__2_merkle_Node (ρ : Operand → Value) (dst : Option Tmp) (ty : TypeId) (pos : String) (aft : Array Edge) (gd : Option (Nat × Bool)) : execOp ρ ⟨dst, .alloc 36, ty, pos, aft, gd⟩ = (do pure (.value (← al 36))) := rfl
theorem ezi__2_merkle_Node : (match Try.prog.info? 36 with | some i => i.zero.isSome | none => false) = true := by kernel_rfl
theorem ezz__2_merkle_Node : zeroTail Try.prog 36 0 = (e2.f z2N).toArray := by kernel_rfl
@[go_sem] theorem erun_al__2_merkle_Node (w : World) : (al 36).run Try.prog w = .ok (.pointer (some ⟨w.heap.size, 0, none⟩)) (e2.new 36 w z2N) := run_alE e2 w ezi__2_merkle_Node _ ezz__2_merkle_Node
@[go_sem ↓] theorem eex_eq__2_merkle_Node (x y : Value) : binOp .eql 36 x y = eqv 36 x y := rfl
@[go_sem ↓] theorem eex_ne__2_merkle_Node (x y : Value) : binOp .neq 36 x y = nev 36 x y := rfl
theorem eguard__2_merkle_Node : Try.prog.eqGuardType Try.prog.depth 36 = false := by kernel_rfl
@[go_sem] theorem erun_guard__2_merkle_Node (w : World) (op : BinOp) (x y : Operand) (a b) : (eqGuard op 36 x y (e2.v a) (e2.v b)).run Try.prog w = .ok () w := run_eqGuard_agg w op _ x y _ _ eguard__2_merkle_Node
theorem eval__2_merkle_Node (cs : List Value) : valOf Try.prog 36 cs = .agg cs.toArray := by simp only [valOf, Try.underlying36]
theorem ekinds__2_merkle_Node : kindsOf Try.prog 9 36 = some (List.replicate 32 (.int .u8)) := by kernel_rfl
@[go_sem] theorem erun_eq__2_merkle_Node (w : World) (a b) : (eqv 36 (e2.v a) (e2.v b)).run Try.prog w = .ok (.bool (decide (a = b))) w := run_eqE e2 w ekinds__2_merkle_Node (by omega) eval__2_merkle_Node (e2_fits) a b
@[go_sem] theorem erun_ne__2_merkle_Node (w : World) (a b) : (nev 36 (e2.v a) (e2.v b)).run Try.prog w = .ok (.bool (!decide (a = b))) w := run_neE e2 w ekinds__2_merkle_Node (by omega) eval__2_merkle_Node (e2_fits) a b
theorem einfo_bulletin_merkle_Two : (Try.prog.info? 38).map (·.size) = some 65 := by kernel_rfl
@[go_sem ↓] theorem eex_ld_bulletin_merkle_Two (ρ : Operand → Value) (dst : Option Tmp) (x : Operand) (ty : TypeId) (pos : String) (aft : Array Edge) (gd : Option (Nat × Bool)) : execOp ρ ⟨dst, .load 38 x, ty, pos, aft, gd⟩ = (do pure (.value (← ld 38 (ρ x)))) := rfl
@[go_sem] theorem erun_ld_bulletin_merkle_Two (w : World) (b o : Nat) (h : (eT.at_ w b o).isSome = true) : (ld 38 (.pointer (some ⟨b, o, none⟩))).run Try.prog w = .ok (eT.v ((eT.at_ w b o).getD default)) w := run_ldE eT w Try.underlying38 rfl einfo_bulletin_merkle_Two b o h
@[go_sem ↓] theorem eex_st_bulletin_merkle_Two (ρ : Operand → Value) (dst : Option Tmp) (x y : Operand) (ty : TypeId) (pos : String) (aft : Array Edge) (gd : Option (Nat × Bool)) : execOp ρ ⟨dst, .store 38 x y, ty, pos, aft, gd⟩ = (do st 38 (ρ x) (ρ y); pure .skip) := rfl
@[go_sem] theorem erun_st_bulletin_merkle_Two (w : World) (b o : Nat) (a) (h : okA w b o 65 = true) : (st 38 (.pointer (some ⟨b, o, none⟩)) (eT.v a)).run Try.prog w = .ok () (eT.put w b o a) := run_stE eT w einfo_bulletin_merkle_Two b o a h
@[go_sem ↓] theorem eex_bx_bulletin_merkle_Two (ρ : Operand → Value) (dst : Option Tmp) (x : Operand) (ty : TypeId) (pos : String) (aft : Array Edge) (gd : Option (Nat × Bool)) : execOp ρ ⟨dst, .box 38 x, ty, pos, aft, gd⟩ = (do pure (.value (← bx 38 (ρ x)))) := rfl
@[go_sem] theorem erun_bx_bulletin_merkle_Two (w : World) (a) : (bx 38 (eT.v a)).run Try.prog w = .ok (.pointer (some ⟨w.heap.size, 0, none⟩)) (eT.new 38 w a) := run_bxE eT w 38 a
@[go_sem ↓] theorem eex_al_bulletin_merkle_Two (ρ : Operand → Value) (dst : Option Tmp) (ty : TypeId) (pos : String) (aft : Array Edge) (gd : Option (Nat × Bool)) : execOp ρ ⟨dst, .alloc 38, ty, pos, aft, gd⟩ = (do pure (.value (← al 38))) := rfl
theorem ezi_bulletin_merkle_Two : (match Try.prog.info? 38 with | some i => i.zero.isSome | none => false) = true := by kernel_rfl
theorem ezz_bulletin_merkle_Two : zeroTail Try.prog 38 0 = (eT.f zTN).toArray := by kernel_rfl
@[go_sem] theorem erun_al_bulletin_merkle_Two (w : World) : (al 38).run Try.prog w = .ok (.pointer (some ⟨w.heap.size, 0, none⟩)) (eT.new 38 w zTN) := run_alE eT w ezi_bulletin_merkle_Two _ ezz_bulletin_merkle_Two
@[go_sem ↓] theorem eex_bd_bulletin_merkle_Two (ρ : Operand → Value) (dst : Option Tmp) (ps : Array (Nat × Operand)) (ty : TypeId) (pos : String) (aft : Array Edge) (gd : Option (Nat × Bool)) : execOp ρ ⟨dst, .build 38 ps, ty, pos, aft, gd⟩ = (do pure (.value (← bd 38 (ps.map fun (i, x) => (i, ρ x))))) := rfl
@[go_sem] theorem erun_bd0_bulletin_merkle_Two (w : World) : (bd 38 #[]).run Try.prog w = .ok (eT.v zTN) w := by kernel_rfl
@[go_sem ↓] theorem eex_eq_bulletin_merkle_Two (x y : Value) : binOp .eql 38 x y = eqv 38 x y := rfl
@[go_sem ↓] theorem eex_ne_bulletin_merkle_Two (x y : Value) : binOp .neq 38 x y = nev 38 x y := rfl
theorem eguard_bulletin_merkle_Two : Try.prog.eqGuardType Try.prog.depth 38 = false := by kernel_rfl
@[go_sem] theorem erun_guard_bulletin_merkle_Two (w : World) (op : BinOp) (x y : Operand) (a b) : (eqGuard op 38 x y (eT.v a) (eT.v b)).run Try.prog w = .ok () w := run_eqGuard_agg w op _ x y _ _ eguard_bulletin_merkle_Two
theorem eval_bulletin_merkle_Two (cs : List Value) : valOf Try.prog 38 cs = .agg cs.toArray := by simp only [valOf, Try.underlying38]
theorem ekinds_bulletin_merkle_Two : kindsOf Try.prog 9 38 = some (.int .i64 :: List.replicate 64 (.int .u8)) := by kernel_rfl
@[go_sem] theorem erun_eq_bulletin_merkle_Two (w : World) (a b) : (eqv 38 (eT.v a) (eT.v b)).run Try.prog w = .ok (.bool (decide (a = b))) w := run_eqE eT w ekinds_bulletin_merkle_Two (by omega) eval_bulletin_merkle_Two (eT_fits) a b
@[go_sem] theorem erun_ne_bulletin_merkle_Two (w : World) (a b) : (nev 38 (eT.v a) (eT.v b)).run Try.prog w = .ok (.bool (!decide (a = b))) w := run_neE eT w ekinds_bulletin_merkle_Two (by omega) eval_bulletin_merkle_Two (eT_fits) a b
theorem einfo_bulletin_bulletinref06_Two : (Try.prog.info? 44).map (·.size) = some 65 := by kernel_rfl
@[go_sem ↓] theorem eex_ld_bulletin_bulletinref06_Two (ρ : Operand → Value) (dst : Option Tmp) (x : Operand) (ty : TypeId) (pos : String) (aft : Array Edge) (gd : Option (Nat × Bool)) : execOp ρ ⟨dst, .load 44 x, ty, pos, aft, gd⟩ = (do pure (.value (← ld 44 (ρ x)))) := rfl
@[go_sem] theorem erun_ld_bulletin_bulletinref06_Two (w : World) (b o : Nat) (h : (eT.at_ w b o).isSome = true) : (ld 44 (.pointer (some ⟨b, o, none⟩))).run Try.prog w = .ok (eT.v ((eT.at_ w b o).getD default)) w := run_ldE eT w Try.underlying44 rfl einfo_bulletin_bulletinref06_Two b o h
@[go_sem ↓] theorem eex_st_bulletin_bulletinref06_Two (ρ : Operand → Value) (dst : Option Tmp) (x y : Operand) (ty : TypeId) (pos : String) (aft : Array Edge) (gd : Option (Nat × Bool)) : execOp ρ ⟨dst, .store 44 x y, ty, pos, aft, gd⟩ = (do st 44 (ρ x) (ρ y); pure .skip) := rfl
@[go_sem] theorem erun_st_bulletin_bulletinref06_Two (w : World) (b o : Nat) (a) (h : okA w b o 65 = true) : (st 44 (.pointer (some ⟨b, o, none⟩)) (eT.v a)).run Try.prog w = .ok () (eT.put w b o a) := run_stE eT w einfo_bulletin_bulletinref06_Two b o a h
@[go_sem ↓] theorem eex_bx_bulletin_bulletinref06_Two (ρ : Operand → Value) (dst : Option Tmp) (x : Operand) (ty : TypeId) (pos : String) (aft : Array Edge) (gd : Option (Nat × Bool)) : execOp ρ ⟨dst, .box 44 x, ty, pos, aft, gd⟩ = (do pure (.value (← bx 44 (ρ x)))) := rfl
@[go_sem] theorem erun_bx_bulletin_bulletinref06_Two (w : World) (a) : (bx 44 (eT.v a)).run Try.prog w = .ok (.pointer (some ⟨w.heap.size, 0, none⟩)) (eT.new 44 w a) := run_bxE eT w 44 a
@[go_sem ↓] theorem eex_al_bulletin_bulletinref06_Two (ρ : Operand → Value) (dst : Option Tmp) (ty : TypeId) (pos : String) (aft : Array Edge) (gd : Option (Nat × Bool)) : execOp ρ ⟨dst, .alloc 44, ty, pos, aft, gd⟩ = (do pure (.value (← al 44))) := rfl
theorem ezi_bulletin_bulletinref06_Two : (match Try.prog.info? 44 with | some i => i.zero.isSome | none => false) = true := by kernel_rfl
theorem ezz_bulletin_bulletinref06_Two : zeroTail Try.prog 44 0 = (eT.f zTN).toArray := by kernel_rfl
@[go_sem] theorem erun_al_bulletin_bulletinref06_Two (w : World) : (al 44).run Try.prog w = .ok (.pointer (some ⟨w.heap.size, 0, none⟩)) (eT.new 44 w zTN) := run_alE eT w ezi_bulletin_bulletinref06_Two _ ezz_bulletin_bulletinref06_Two
@[go_sem ↓] theorem eex_bd_bulletin_bulletinref06_Two (ρ : Operand → Value) (dst : Option Tmp) (ps : Array (Nat × Operand)) (ty : TypeId) (pos : String) (aft : Array Edge) (gd : Option (Nat × Bool)) : execOp ρ ⟨dst, .build 44 ps, ty, pos, aft, gd⟩ = (do pure (.value (← bd 44 (ps.map fun (i, x) => (i, ρ x))))) := rfl
@[go_sem] theorem erun_bd0_bulletin_bulletinref06_Two (w : World) : (bd 44 #[]).run Try.prog w = .ok (eT.v zTN) w := by kernel_rfl
@[go_sem ↓] theorem eex_eq_bulletin_bulletinref06_Two (x y : Value) : binOp .eql 44 x y = eqv 44 x y := rfl
@[go_sem ↓] theorem eex_ne_bulletin_bulletinref06_Two (x y : Value) : binOp .neq 44 x y = nev 44 x y := rfl
theorem eguard_bulletin_bulletinref06_Two : Try.prog.eqGuardType Try.prog.depth 44 = false := by kernel_rfl
@[go_sem] theorem erun_guard_bulletin_bulletinref06_Two (w : World) (op : BinOp) (x y : Operand) (a b) : (eqGuard op 44 x y (eT.v a) (eT.v b)).run Try.prog w = .ok () w := run_eqGuard_agg w op _ x y _ _ eguard_bulletin_bulletinref06_Two
theorem eval_bulletin_bulletinref06_Two (cs : List Value) : valOf Try.prog 44 cs = .agg cs.toArray := by simp only [valOf, Try.underlying44]
theorem ekinds_bulletin_bulletinref06_Two : kindsOf Try.prog 9 44 = some (.int .i64 :: List.replicate 64 (.int .u8)) := by kernel_rfl
@[go_sem] theorem erun_eq_bulletin_bulletinref06_Two (w : World) (a b) : (eqv 44 (eT.v a) (eT.v b)).run Try.prog w = .ok (.bool (decide (a = b))) w := run_eqE eT w ekinds_bulletin_bulletinref06_Two (by omega) eval_bulletin_bulletinref06_Two (eT_fits) a b
@[go_sem] theorem erun_ne_bulletin_bulletinref06_Two (w : World) (a b) : (nev 44 (eT.v a) (eT.v b)).run Try.prog w = .ok (.bool (!decide (a = b))) w := run_neE eT w ekinds_bulletin_bulletinref06_Two (by omega) eval_bulletin_bulletinref06_Two (eT_fits) a b
theorem einfo__11__2_merkle_Node : (Try.prog.info? 85).map (·.size) = some 352 := by kernel_rfl
@[go_sem ↓] theorem eex_al__11__2_merkle_Node (ρ : Operand → Value) (dst : Option Tmp) (ty : TypeId) (pos : String) (aft : Array Edge) (gd : Option (Nat × Bool)) : execOp ρ ⟨dst, .alloc 85, ty, pos, aft, gd⟩ = (do pure (.value (← al 85))) := rfl
theorem ezi__11__2_merkle_Node : (match Try.prog.info? 85 with | some i => i.zero.isSome | none => false) = true := by kernel_rfl
theorem ezz__11__2_merkle_Node : zeroTail Try.prog 85 0 = ((eB 352).f z352).toArray := by kernel_rfl
@[go_sem] theorem erun_al__11__2_merkle_Node (w : World) : (al 85).run Try.prog w = .ok (.pointer (some ⟨w.heap.size, 0, none⟩)) ((eB 352).new 85 w z352) := run_alE (eB 352) w ezi__11__2_merkle_Node _ ezz__11__2_merkle_Node
theorem einfo_bulletin_merkle_Builder : (Try.prog.info? 72).map (·.size) = some 177 := by kernel_rfl
@[go_sem ↓] theorem eex_ld_bulletin_merkle_Builder (ρ : Operand → Value) (dst : Option Tmp) (x : Operand) (ty : TypeId) (pos : String) (aft : Array Edge) (gd : Option (Nat × Bool)) : execOp ρ ⟨dst, .load 72 x, ty, pos, aft, gd⟩ = (do pure (.value (← ld 72 (ρ x)))) := rfl
@[go_sem] theorem erun_ld_bulletin_merkle_Builder (w : World) (b o : Nat) (h : (eBd.at_ w b o).isSome = true) : (ld 72 (.pointer (some ⟨b, o, none⟩))).run Try.prog w = .ok (eBd.v ((eBd.at_ w b o).getD default)) w := run_ldE eBd w Try.underlying72 rfl einfo_bulletin_merkle_Builder b o h
@[go_sem ↓] theorem eex_st_bulletin_merkle_Builder (ρ : Operand → Value) (dst : Option Tmp) (x y : Operand) (ty : TypeId) (pos : String) (aft : Array Edge) (gd : Option (Nat × Bool)) : execOp ρ ⟨dst, .store 72 x y, ty, pos, aft, gd⟩ = (do st 72 (ρ x) (ρ y); pure .skip) := rfl
@[go_sem] theorem erun_st_bulletin_merkle_Builder (w : World) (b o : Nat) (a) (h : okA w b o 177 = true) : (st 72 (.pointer (some ⟨b, o, none⟩)) (eBd.v a)).run Try.prog w = .ok () (eBd.put w b o a) := run_stE eBd w einfo_bulletin_merkle_Builder b o a h
@[go_sem ↓] theorem eex_bx_bulletin_merkle_Builder (ρ : Operand → Value) (dst : Option Tmp) (x : Operand) (ty : TypeId) (pos : String) (aft : Array Edge) (gd : Option (Nat × Bool)) : execOp ρ ⟨dst, .box 72 x, ty, pos, aft, gd⟩ = (do pure (.value (← bx 72 (ρ x)))) := rfl
@[go_sem] theorem erun_bx_bulletin_merkle_Builder (w : World) (a) : (bx 72 (eBd.v a)).run Try.prog w = .ok (.pointer (some ⟨w.heap.size, 0, none⟩)) (eBd.new 72 w a) := run_bxE eBd w 72 a
@[go_sem ↓] theorem eex_al_bulletin_merkle_Builder (ρ : Operand → Value) (dst : Option Tmp) (ty : TypeId) (pos : String) (aft : Array Edge) (gd : Option (Nat × Bool)) : execOp ρ ⟨dst, .alloc 72, ty, pos, aft, gd⟩ = (do pure (.value (← al 72))) := rfl
theorem ezi_bulletin_merkle_Builder : (match Try.prog.info? 72 with | some i => i.zero.isSome | none => false) = true := by kernel_rfl
theorem ezz_bulletin_merkle_Builder : zeroTail Try.prog 72 0 = (eBd.f zBd).toArray := by kernel_rfl
@[go_sem] theorem erun_al_bulletin_merkle_Builder (w : World) : (al 72).run Try.prog w = .ok (.pointer (some ⟨w.heap.size, 0, none⟩)) (eBd.new 72 w zBd) := run_alE eBd w ezi_bulletin_merkle_Builder _ ezz_bulletin_merkle_Builder
@[go_sem ↓] theorem eex_bd_bulletin_merkle_Builder (ρ : Operand → Value) (dst : Option Tmp) (ps : Array (Nat × Operand)) (ty : TypeId) (pos : String) (aft : Array Edge) (gd : Option (Nat × Bool)) : execOp ρ ⟨dst, .build 72 ps, ty, pos, aft, gd⟩ = (do pure (.value (← bd 72 (ps.map fun (i, x) => (i, ρ x))))) := rfl
@[go_sem] theorem erun_bd0_bulletin_merkle_Builder (w : World) : (bd 72 #[]).run Try.prog w = .ok (eBd.v zBd) w := by kernel_rfl
theorem einfo__32_uint8 : (Try.prog.info? 98).map (·.size) = some 32 := by kernel_rfl
@[go_sem] theorem erun_ld__32_uint8 (w : World) (b o : Nat) (h : ((eB 32).at_ w b o).isSome = true) : (ld 98 (.pointer (some ⟨b, o, none⟩))).run Try.prog w = .ok ((eB 32).v (((eB 32).at_ w b o).getD default)) w := run_ldE (eB 32) w Try.underlying98 rfl einfo__32_uint8 b o h
@[go_sem] theorem erun_st__32_uint8 (w : World) (b o : Nat) (a) (h : okA w b o 32 = true) : (st 98 (.pointer (some ⟨b, o, none⟩)) ((eB 32).v a)).run Try.prog w = .ok () ((eB 32).put w b o a) := run_stE (eB 32) w einfo__32_uint8 b o a h
@[go_sem ↓] theorem eex_al__32_uint8 (ρ : Operand → Value) (dst : Option Tmp) (ty : TypeId) (pos : String) (aft : Array Edge) (gd : Option (Nat × Bool)) : execOp ρ ⟨dst, .alloc 98, ty, pos, aft, gd⟩ = (do pure (.value (← al 98))) := rfl
theorem ezi__32_uint8 : (match Try.prog.info? 98 with | some i => i.zero.isSome | none => false) = true := by kernel_rfl
theorem ezz__32_uint8 : zeroTail Try.prog 98 0 = ((eB 32).f z32N).toArray := by kernel_rfl
@[go_sem] theorem erun_al__32_uint8 (w : World) : (al 98).run Try.prog w = .ok (.pointer (some ⟨w.heap.size, 0, none⟩)) ((eB 32).new 98 w z32N) := run_alE (eB 32) w ezi__32_uint8 _ ezz__32_uint8
end Go.Proofs.Ytnholkjgdpapbaa
