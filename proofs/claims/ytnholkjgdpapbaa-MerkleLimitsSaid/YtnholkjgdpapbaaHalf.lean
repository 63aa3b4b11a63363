/- SHA-256: halves of digests: SumHalf and the reference's Half; copy, met by name. No condition beyond the lengths that are named. -/
import Derived.Test.YtnholkjgdpapbaaLw5A
namespace Go.Proofs.Ytnholkjgdpapbaa
set_option linter.unusedVariables false
set_option linter.unusedSimpArgs false
set_option maxRecDepth 10000
open Go.RowKit
attribute [local go_sem ↓] Go.wp_at_zero Go.wp_at_succ

def cpy (ats : Array TypeId) (ty : TypeId) (args : Array Value) : Sem Value := Builtin.copy_ ats ty args
@[go_sem ↓] theorem ex_cpy (ats : Array TypeId) (ty : TypeId) (args : Array Value) : Builtin.copy_ ats ty args = cpy ats ty args := rfl
theorem run_cpy (w : World) (ty : TypeId) (bd od nd cd sb so ns cs n : Nat) (hn : n = min ns nd) (l : List UInt8) (hl : l.length = n) (hsrc : ∀ j x, l[j]? = some x → w.cell? ⟨sb, so + j, none⟩ = some (u8 x)) (hok : okA w bd od n = true) :
    (cpy #[22, 22] ty #[.slice (some ⟨bd, od, none⟩) nd cd, .slice (some ⟨sb, so, none⟩) ns cs]).run Try.prog w = .ok (.int .i64 (n : Int)) (putW w bd od (bs l).toArray) := by
  obtain ⟨i, hi, h1⟩ := Option.map_eq_some_iff.1 (show (Try.prog.info? 5).map (·.size) = some 1 by kernel_rfl)
  have hld := run_loadCells_list (P := Try.prog) w ⟨sb, so, none⟩ (bs l) (fun j v hv => by
    simp only [bs, List.getElem?_map, Option.map_eq_some_iff] at hv
    obtain ⟨x, hx, rfl⟩ := hv
    rw [Addr.add_mid]; exact hsrc j x hx)
  rw [bs_length, hl] at hld
  unfold okA at hok
  split at hok
  · rename_i cc ee lo hi' hh
    simp only [Bool.and_eq_true, decide_eq_true_eq] at hok
    obtain ⟨hs, hf⟩ := hok
    have hst := run_storeCells_cells (P := Try.prog) bd od (bs l) 0 w (fun j hj => by simp at hj; simp [World.cell?, hh]; omega) (fun j hj => by simp at hj; simp [World.frozen?, hh]; omega) (bs_one' l)
    simp only [Nat.add_zero] at hst
    rw [setCells_putW bd _ od w cc ee _ hh (by simp; omega)] at hst
    have hmin : Nat.min ns nd = n := hn.symm
    unfold cpy Builtin.copy_
    simp [run_underlying Try.underlying22, sizeOf, typeInfo, hi, h1, Builtin.lenOf, Builtin.firstCells, hmin, hld, hst]
    rfl
  · simp at hok

def halfB (b : List UInt8) : List UInt8 := (sumB b).take 16
theorem halfB_length (b : List UInt8) : (halfB b).length = 16 := by simp [halfB, sumB_length]
def halfY (b : List UInt8) : By 16 := ⟨halfB b, halfB_length b⟩
theorem ldA_half {w : World} {g : Nat} {t : TypeId} {b : List UInt8} (h : Blk w g t (bs (sumB b)).toArray) : ldA w g 0 16 = some (bs (halfB b)).toArray := by
  rw [h.ldA 0 16 (by simp [sumB_length])]
  simp [halfB, bs, List.map_take]
theorem half_st (y : By 16) (w : World) (b p : Nat) (h : okA w b p 16 = true) : (st 96 (.pointer (some ⟨b, p, none⟩)) (.agg (bs y.1).toArray)).run Try.prog w = .ok () (putW w b p (bs y.1).toArray) :=
  run_st w _ (by rw [info_bulletin_sha256_Half]; simp [y.2]) (by have := bs_one' y.1; simpa using this) b p (by simpa [y.2] using h)
theorem a16_st (y : By 16) (w : World) (b p : Nat) (h : okA w b p 16 = true) : (st 23 (.pointer (some ⟨b, p, none⟩)) (.agg (bs y.1).toArray)).run Try.prog w = .ok () (putW w b p (bs y.1).toArray) :=
  run_st w _ (by rw [info__16_uint8]; simp [y.2]) (by have := bs_one' y.1; simpa using this) b p (by simpa [y.2] using h)
theorem a32_st (y : By 32) (w : World) (b p : Nat) (h : okA w b p 32 = true) : (st 98 (.pointer (some ⟨b, p, none⟩)) (.agg (bs y.1).toArray)).run Try.prog w = .ok () (putW w b p (bs y.1).toArray) :=
  run_st w _ (by rw [info__32_uint8]; simp [y.2]) (by have := bs_one' y.1; simpa using this) b p (by simpa [y.2] using h)
/-- The array that a slice starts. -/
def arrp (T : TypeId) (x : Value) : Sem Value := Instr.arrayAt T x
@[go_sem ↓] theorem ex_arrp_half (x : Value) : Instr.arrayAt 96 x = arrp 96 x := rfl
@[go_sem] theorem run_arrp_half (w : World) (a : Option Addr) (n c : Nat) (h : 16 ≤ n) : (arrp 96 (.slice a n c)).run Try.prog w = .ok (.pointer a) w := by
  have h' : ¬ n < 16 := by omega
  simp [arrp, Instr.arrayAt, run_underlying Try.underlying96, h']

theorem shalf_any (l : List UInt8) (B : Nat) (v : Value) (w : World) (hs : Rd w B v l) (hl : l.length ≤ 1000000000) :
    Calls Try.prog 47 #[v] w fun e w' => e = .returned (.agg (bs (halfB l)).toArray) ∧ Fr0 w w' := by
  obtain ⟨A, c, rfl, h1, h2⟩ := hs.form
  have HS := Lib.hid (hs.alloc (.cells (bs (List.replicate 16 0)).toArray 96))
  have HZ := Lib.hid (Blk.new w 96 (bs (List.replicate 16 0)).toArray)
  clear hs
  go_enter Try.func47, Try.ntmps47
  go_wp2_with fail
  refine (ssum_any l B _ _ HS.out hl).mono ?_
  rintro e w3 ⟨rfl, hf⟩
  have hst := dig_st (sumY l)
  change ∀ (w : World) (b' p : Nat), okA w b' p 32 = true → (st 103 (.pointer (some ⟨b', p, none⟩)) (.agg (bs (sumB l)).toArray)).run Try.prog w = .ok () (putW w b' p (bs (sumB l)).toArray) at hst
  have hst2 := half_st (halfY l)
  change ∀ (w : World) (b' p : Nat), okA w b' p 16 = true → (st 96 (.pointer (some ⟨b', p, none⟩)) (.agg (bs (halfB l)).toArray)).run Try.prog w = .ok () (putW w b' p (bs (halfB l)).toArray) at hst2
  have hsz : (bs (sumB l)).toArray.size = 32 := by simp [sumB_length]
  have hla := ldA_half (Blk.new w3 103 (bs (sumB l)).toArray)
  have hz3 := (HZ.out.fr hf (fun h => h)).alloc (.cells (bs (sumB l)).toArray 103)
  have hok := hz3.okA 0 16 (by simp)
  have HZ3 := Lib.hid hz3
  have HF3 := Lib.hid ((((Fr.refl (fun _ => False) w).alloc _).trans hf).alloc (.cells (bs (sumB l)).toArray 103))
  clear hf hz3
  go_wp2_with fail
  refine bodyPost_agg (n := 16) (cs := (bs (halfB l)).toArray) rfl Try.underlying96 rfl info_bulletin_sha256_Half (by rfl) ?_ rfl ?_
  · exact ldA_put HZ3.out _ (by simp [halfB_length]) (by simp)
  · exact ⟨rfl, HF3.out.put (S := fun _ => False) (fun h => by omega) _ _⟩

theorem a16_kinds : kindsOf Try.prog 3 23 = some (List.replicate 16 (.int .u8)) := by kernel_rfl
@[go_sem] theorem run_a16_eq (w : World) (a b : By 16) : (eqv 23 (.agg (bs a.1).toArray) (.agg (bs b.1).toArray)).run Try.prog w = .ok (.bool (decide (a = b))) w := by
  rw [← sames_by]; exact run_eql_flat w 3 a16_kinds (by omega) val__16_uint8 _ _ (by_fits a) (by_fits b)
theorem run_a16_same (w : World) (l : List UInt8) (hl : l.length = 16) : (eqv 23 (.agg (bs l).toArray) (.agg (bs l).toArray)).run Try.prog w = .ok (.bool true) w := by
  have := run_a16_eq w ⟨l, hl⟩ ⟨l, hl⟩; simpa using this

end Go.Proofs.Ytnholkjgdpapbaa
