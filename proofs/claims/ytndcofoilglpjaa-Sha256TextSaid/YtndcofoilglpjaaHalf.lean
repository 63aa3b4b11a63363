/- SHA-256: halves of digests: SumHalf and the reference's Half; copy, met by name. No condition beyond the lengths that are named. -/
import Derived.Test.YtndcofoilglpjaaLw5A
namespace Go.Proofs.Ytndcofoilglpjaa
set_option linter.unusedVariables false
set_option linter.unusedSimpArgs false
open Go.RowKit
attribute [local go_sem ↓] Go.wp_at_zero Go.wp_at_succ

def cpy (ats : Array TypeId) (ty : TypeId) (args : Array Value) : Sem Value := Builtin.copy_ ats ty args
@[go_sem ↓] theorem ex_cpy (ats : Array TypeId) (ty : TypeId) (args : Array Value) : Builtin.copy_ ats ty args = cpy ats ty args := rfl
theorem run_cpy (w : World) (ty : TypeId) (bd od nd cd sb so ns cs n : Nat) (hn : n = min ns nd) (l : List UInt8) (hl : l.length = n) (hsrc : ∀ j x, l[j]? = some x → w.cell? ⟨sb, so + j, none⟩ = some (u8 x)) (hok : okA w bd od n = true) :
    (cpy #[22, 22] ty #[.slice (some ⟨bd, od, none⟩) nd cd, .slice (some ⟨sb, so, none⟩) ns cs]).run Try.prog w = .ok (.int .i64 (n : Int)) (putW w bd od (bs l).toArray) := by
  obtain ⟨i, hi, h1⟩ := Option.map_eq_some_iff.1 (show (Try.prog.info? 5).map (·.size) = some 1 by kernel_rfl)
  have hld := run_loadCells_list (P := Try.prog) w ⟨sb, so, none⟩ (bs l) (fun j v hv => by
    simp only [bs, List.getElem?_map, Option.map_eq_some_iff] at hv
    obtain ⟨x, hx, rfl⟩ := hv
    rw [Addr.add_mid]; exact hsrc j x hx)
  rw [bs_length, hl] at hld
  unfold okA at hok
  split at hok
  · rename_i cc ee lo hi' hh
    simp only [Bool.and_eq_true, decide_eq_true_eq] at hok
    obtain ⟨hs, hf⟩ := hok
    have hst := run_storeCells_cells (P := Try.prog) bd od (bs l) 0 w (fun j hj => by simp at hj; simp [World.cell?, hh]; omega) (fun j hj => by simp at hj; simp [World.frozen?, hh]; omega) (bs_one' l)
    simp only [Nat.add_zero] at hst
    rw [setCells_putW bd _ od w cc ee _ hh (by simp; omega)] at hst
    have hmin : Nat.min ns nd = n := hn.symm
    unfold cpy Builtin.copy_
    simp [run_underlying Try.underlying22, sizeOf, typeInfo, hi, h1, Builtin.lenOf, Builtin.firstCells, hmin, hld, hst]
    rfl
  · simp at hok

def halfB (b : List UInt8) : List UInt8 := (sumB b).take 16
theorem halfB_length (b : List UInt8) : (halfB b).length = 16 := by simp [halfB, sumB_length]
def halfY (b : List UInt8) : By 16 := ⟨halfB b, halfB_length b⟩
theorem ldA_half {w : World} {g : Nat} {t : TypeId} {b : List UInt8} (h : Blk w g t (bs (sumB b)).toArray) : ldA w g 0 16 = some (bs (halfB b)).toArray := by
  rw [h.ldA 0 16 (by simp [sumB_length])]
  simp [halfB, bs, List.map_take]
theorem half_st (y : By 16) (w : World) (b p : Nat) (h : okA w b p 16 = true) : (st 37 (.pointer (some ⟨b, p, none⟩)) (.agg (bs y.1).toArray)).run Try.prog w = .ok () (putW w b p (bs y.1).toArray) :=
  run_st w _ (by rw [info_bulletin_sha256_Half]; simp [y.2]) (by have := bs_one' y.1; simpa using this) b p (by simpa [y.2] using h)
theorem a16_st (y : By 16) (w : World) (b p : Nat) (h : okA w b p 16 = true) : (st 36 (.pointer (some ⟨b, p, none⟩)) (.agg (bs y.1).toArray)).run Try.prog w = .ok () (putW w b p (bs y.1).toArray) :=
  run_st w _ (by rw [info__16_uint8]; simp [y.2]) (by have := bs_one' y.1; simpa using this) b p (by simpa [y.2] using h)
theorem a32_st (y : By 32) (w : World) (b p : Nat) (h : okA w b p 32 = true) : (st 24 (.pointer (some ⟨b, p, none⟩)) (.agg (bs y.1).toArray)).run Try.prog w = .ok () (putW w b p (bs y.1).toArray) :=
  run_st w _ (by rw [info__32_uint8]; simp [y.2]) (by have := bs_one' y.1; simpa using this) b p (by simpa [y.2] using h)
/-- The array that a slice starts. -/
def arrp (T : TypeId) (x : Value) : Sem Value := Instr.arrayAt T x
@[go_sem ↓] theorem ex_arrp_half (x : Value) : Instr.arrayAt 37 x = arrp 37 x := rfl
@[go_sem] theorem run_arrp_half (w : World) (a : Option Addr) (n c : Nat) (h : 16 ≤ n) : (arrp 37 (.slice a n c)).run Try.prog w = .ok (.pointer a) w := by
  have h' : ¬ n < 16 := by omega
  simp [arrp, Instr.arrayAt, run_underlying Try.underlying37, h']

theorem shalf_any (l : List UInt8) (B : Nat) (v : Value) (w : World) (hs : Rd w B v l) (hl : l.length ≤ 1000000000) :
    Calls Try.prog 18 #[v] w fun e w' => e = .returned (.agg (bs (halfB l)).toArray) ∧ Fr0 w w' := by
  obtain ⟨A, c, rfl, h1, h2⟩ := hs.form
  have HS := Lib.hid (hs.alloc (.cells (bs (List.replicate 16 0)).toArray 37))
  have HZ := Lib.hid (Blk.new w 37 (bs (List.replicate 16 0)).toArray)
  clear hs
  go_enter Try.func18, Try.ntmps18
  go_wp2_with fail
  refine (ssum_any l B _ _ HS.out hl).mono ?_
  rintro e w3 ⟨rfl, hf⟩
  have hst := dig_st (sumY l)
  change ∀ (w : World) (b' p : Nat), okA w b' p 32 = true → (st 25 (.pointer (some ⟨b', p, none⟩)) (.agg (bs (sumB l)).toArray)).run Try.prog w = .ok () (putW w b' p (bs (sumB l)).toArray) at hst
  have hst2 := half_st (halfY l)
  change ∀ (w : World) (b' p : Nat), okA w b' p 16 = true → (st 37 (.pointer (some ⟨b', p, none⟩)) (.agg (bs (halfB l)).toArray)).run Try.prog w = .ok () (putW w b' p (bs (halfB l)).toArray) at hst2
  have hsz : (bs (sumB l)).toArray.size = 32 := by simp [sumB_length]
  have hla := ldA_half (Blk.new w3 25 (bs (sumB l)).toArray)
  have hz3 := (HZ.out.fr hf (fun h => h)).alloc (.cells (bs (sumB l)).toArray 25)
  have hok := hz3.okA 0 16 (by simp)
  have HZ3 := Lib.hid hz3
  have HF3 := Lib.hid ((((Fr.refl (fun _ => False) w).alloc _).trans hf).alloc (.cells (bs (sumB l)).toArray 25))
  clear hf hz3
  go_wp2_with fail
  refine bodyPost_agg (n := 16) (cs := (bs (halfB l)).toArray) rfl Try.underlying37 rfl info_bulletin_sha256_Half (by rfl) ?_ rfl ?_
  · exact ldA_put HZ3.out _ (by simp [halfB_length]) (by simp)
  · exact ⟨rfl, HF3.out.put (S := fun _ => False) (fun h => by omega) _ _⟩

theorem rhalf_any (l : List UInt8) (B : Nat) (v : Value) (w : World) (hs : Rd w B v l) (hl : l.length ≤ 1000000000) :
    Calls Try.prog 19 #[v] w fun e w' => e = .returned (.agg (bs (halfB l)).toArray) ∧ Fr0 w w' := by
  obtain ⟨A, c, rfl, h1, h2⟩ := hs.form
  have HS := Lib.hid (hs.alloc (.cells (bs (List.replicate 16 0)).toArray 36))
  have HZ := Lib.hid (Blk.new w 36 (bs (List.replicate 16 0)).toArray)
  clear hs
  go_enter Try.func19, Try.ntmps19
  go_wp2_with fail
  refine (rsum_any l B _ _ HS.out hl).mono ?_
  rintro e w3 ⟨rfl, hf⟩
  have hst := a32_st (sumY l)
  change ∀ (w : World) (b' p : Nat), okA w b' p 32 = true → (st 24 (.pointer (some ⟨b', p, none⟩)) (.agg (bs (sumB l)).toArray)).run Try.prog w = .ok () (putW w b' p (bs (sumB l)).toArray) at hst
  have hst2 := a16_st (halfY l)
  change ∀ (w : World) (b' p : Nat), okA w b' p 16 = true → (st 36 (.pointer (some ⟨b', p, none⟩)) (.agg (bs (halfB l)).toArray)).run Try.prog w = .ok () (putW w b' p (bs (halfB l)).toArray) at hst2
  have hsz : (bs (sumB l)).toArray.size = 32 := by simp [sumB_length]
  have hD := Blk.new w3 24 (bs (sumB l)).toArray
  have hF3 := (((Fr.refl (fun _ => False) w).alloc (.cells (bs (List.replicate 16 0)).toArray 36)).trans hf).alloc (.cells (bs (sumB l)).toArray 24)
  have hz3 := (HZ.out.fr hf (fun h => h)).alloc (.cells (bs (sumB l)).toArray 24)
  obtain ⟨w4, hw4⟩ : ∃ w4, w4 = w3.alloc (.cells (bs (sumB l)).toArray 24) := ⟨_, rfl⟩
  have hN := Blk.new w4 36 (bs (List.replicate 16 0)).toArray
  have hD5 := (show Blk w4 w3.heap.size 24 (bs (sumB l)).toArray from by rw [hw4]; exact hD).alloc (.cells (bs (List.replicate 16 0)).toArray 36)
  have hZ5 := (show Blk w4 w.heap.size 36 (bs (List.replicate 16 0)).toArray from by rw [hw4]; exact hz3).alloc (.cells (bs (List.replicate 16 0)).toArray 36)
  have hF5 := (show Fr0 w w4 from by rw [hw4]; exact hF3).alloc (.cells (bs (List.replicate 16 0)).toArray 36)
  have hzz : w4.heap.size = w3.heap.size + 1 := by rw [hw4]; simp
  rw [hzz] at hN
  have hzlt : w.heap.size < w3.heap.size := by have := hf.size; simp at this; omega
  obtain ⟨w5, hw5⟩ : ∃ w5, w5 = w4.alloc (.cells (bs (List.replicate 16 0)).toArray 36) := ⟨_, rfl⟩
  rw [← hw5] at hN hD5 hZ5 hF5
  have hcp := run_cpy w5.drew 3 (w3.heap.size + 1) 0 16 16 w3.heap.size 0 16 32 16 rfl (halfB l) (halfB_length l) (fun j x hj => by
    rw [Nat.zero_add]
    show w5.cell? _ = _
    rw [hD5.cell j]
    simp only [halfB] at hj
    rw [List.getElem?_take] at hj
    split at hj
    · simp [bs, hj]
    · cases hj) (hN.drew.okA 0 16 (by simp))
  have hB5 := hN.putAll (bs (halfB l)).toArray (by simp [halfB_length])
  have hla5 := by_load hB5 (halfB_length l)
  have hF6 := (Fr.refl (fun i => i = w3.heap.size + 1) w5).put (b := w3.heap.size + 1) (fun _ => rfl) 0 (bs (halfB l)).toArray
  have hZ6 := hZ5.fr hF6 (by omega)
  have hok6 := hZ6.okA 0 16 (by simp)
  have hF7 := hF5.then_ (S := fun _ => False) hF6 (fun i hi e => by omega)
  have HZ6 := Lib.hid hZ6
  have HF7 := Lib.hid hF7
  have HW5 := Lib.hid (show w5 = (w3.alloc (.cells (bs (sumB l)).toArray 24)).alloc (.cells (bs (List.replicate 16 0)).toArray 36) from by rw [hw5, hw4])
  clear hf hD hF3 hz3 hN hD5 hZ5 hF5 hzz hw4 hw5 hB5 hF6 hZ6 hF7
  go_wp2_with fail
  change Code.wp _ _ _ _ ((w3.alloc (.cells (bs (sumB l)).toArray 24)).alloc (.cells (bs (List.replicate 16 0)).toArray 36))
  rw [← HW5.out]
  go_still_tail 2, (by kernel_rfl)
  change wpList _ _ _ _ _ w5.drew
  go_wp2_with fail
  refine bodyPost_agg (n := 16) (cs := (bs (halfB l)).toArray) rfl Try.underlying36 rfl info__16_uint8 (by rfl) ?_ rfl ?_
  · exact ldA_put HZ6.out.drew _ (by simp [halfB_length]) (by simp)
  · exact ⟨rfl, HF7.out.drew.put (S := fun _ => False) (fun h => by omega) _ _⟩

theorem a16_kinds : kindsOf Try.prog 3 36 = some (List.replicate 16 (.int .u8)) := by kernel_rfl
@[go_sem] theorem run_a16_eq (w : World) (a b : By 16) : (eqv 36 (.agg (bs a.1).toArray) (.agg (bs b.1).toArray)).run Try.prog w = .ok (.bool (decide (a = b))) w := by
  rw [← sames_by]; exact run_eql_flat w 3 a16_kinds (by omega) val__16_uint8 _ _ (by_fits a) (by_fits b)
theorem run_a16_same (w : World) (l : List UInt8) (hl : l.length = 16) : (eqv 36 (.agg (bs l).toArray) (.agg (bs l).toArray)).run Try.prog w = .ok (.bool true) w := by
  have := run_a16_eq w ⟨l, hl⟩ ⟨l, hl⟩; simpa using this

set_option maxHeartbeats 4000000 in
theorem half_walk (l : List UInt8) (A : Option Addr) (c : Nat) (w : World) (ha : Arg w w.heap.size A l.length c 1 (l.flatMap u8C)) :
    Calls Try.prog 5 #[.slice A l.length c] w fun e w' => e = .returned (.bool true) ∧ Below w.heap.size w w' := by
  have HR := Lib.hid (arg_rd ha)
  clear ha
  go_enter Try.func5, Try.ntmps5
  go_wp2_with fail
  refine (cut_any l _ A _ c w HR.out).mono ?_
  rintro e w1 ⟨rfl, hr, rfl⟩
  have hl := cut_len l
  obtain ⟨b, hb⟩ : ∃ b, b = l.take 500 := ⟨_, rfl⟩
  rw [← hb] at hr hl ⊢
  have HNB := Lib.hid hl
  obtain ⟨N, hN⟩ : ∃ N, N = b.length := ⟨_, rfl⟩
  rw [← hN] at hr ⊢
  have HRB := Lib.hid hr
  clear hr hN hb hl
  go_wp2_with fail
  refine (ssum_any b _ _ _ HRB.out (by have := HNB.out; omega)).mono ?_
  rintro e w2 ⟨rfl, hf2⟩
  have HF2 := Lib.hid hf2
  have HR2 := Lib.hid (HRB.out.fr0 hf2)
  clear hf2
  go_wp2_with fail
  refine (shalf_any b _ _ _ HR2.out (by have := HNB.out; omega)).mono ?_
  rintro e w3 ⟨rfl, hf3⟩
  have hst := dig_st (sumY b)
  change ∀ (w : World) (b' p : Nat), okA w b' p 32 = true → (st 25 (.pointer (some ⟨b', p, none⟩)) (.agg (bs (sumB b)).toArray)).run Try.prog w = .ok () (putW w b' p (bs (sumB b)).toArray) at hst
  have hst2 := half_st (halfY b)
  change ∀ (w : World) (b' p : Nat), okA w b' p 16 = true → (st 37 (.pointer (some ⟨b', p, none⟩)) (.agg (bs (halfB b)).toArray)).run Try.prog w = .ok () (putW w b' p (bs (halfB b)).toArray) at hst2
  have hsz : (bs (sumB b)).toArray.size = 32 := by simp [sumB_length]
  have hsz2 : (bs (halfB b)).toArray.size = 16 := by simp [halfB_length]
  have HF3 := Lib.hid (HF2.out.trans hf3)
  have HR3 := Lib.hid (HR2.out.fr0 hf3)
  clear hf3
  have heq := fun w => run_a16_same w (halfB b) (halfB_length b)
  have hstrs := run_eql_str
  have hD := (Blk.new w3 25 (bs (sumB b)).toArray).alloc (.cells (bs (halfB b)).toArray 37)
  have hH := Blk.new (w3.alloc (.cells (bs (sumB b)).toArray 25)) 37 (bs (halfB b)).toArray
  rw [show (w3.alloc (.cells (bs (sumB b)).toArray 25)).heap.size = w3.heap.size + 1 by simp] at hH
  have HRX := Lib.hid ((HR3.out.alloc (.cells (bs (sumB b)).toArray 25)).alloc (.cells (bs (halfB b)).toArray 37))
  have HFX := Lib.hid ((HF3.out.alloc (.cells (bs (sumB b)).toArray 25)).alloc (.cells (bs (halfB b)).toArray 37))
  have HD := Lib.hid hD
  have HH := Lib.hid hH
  clear hD hH
  go_wp2_with fail
  generalize ((w3.alloc (.cells (bs (sumB b)).toArray 25)).alloc (.cells (bs (halfB b)).toArray 37)) = wx at *
  go_region_law (first
    | (go_simp; go_at_call 13
       refine (known_any _).mono ?_
       rintro e w4 ⟨rfl, hf4⟩
       have HF4 := Lib.hid (show Fr0 wx w4 from ((Fr.refl _ _).drew).trans hf4)
       have hh4 := HH.out.fr HF4.out (fun h => h)
       have hld4 := by_load hh4 (halfB_length b)
       have hcv4 := rd_string (Rd.of_blk hh4 16 (halfB_length b) (by unfold maxLen; omega))
       have hcv4' := rd_string (show Rd w4 (w3.heap.size + 1) (.slice (some ⟨w3.heap.size, 0, none⟩) 16 32) (halfB b) from by
         have h1 := Rd.of_blk (HD.out.fr HF4.out (fun h => h)) 32 (sumB_length b) (by unfold maxLen; omega)
         exact h1.cutFront 16 (by simp [sumB_length]))
       clear hf4 hh4)
    | (go_simp; go_at_call 19
       refine (rhalf_any b _ _ w4 (HRX.out.fr0 HF4.out) (by have := HNB.out; omega)).mono ?_
       rintro e w5 ⟨rfl, hf5⟩
       have HF5 := Lib.hid (HF4.out.trans hf5)
       have hld5 := by_load (HH.out.fr HF5.out (fun h => h)) (halfB_length b)
       clear hf5))
  all_goals
    go_wp2_with fail
    go_ret
    exact ⟨rfl, Fr0.below (HFX.out.trans HF5.out)⟩
end Go.Proofs.Ytndcofoilglpjaa
