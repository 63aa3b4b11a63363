/- SHA-256: the program's process: a block. No condition beyond the lengths that are named. -/
import Derived.Test.YtnholkjgdpapbaaShaB
namespace Go.Proofs.Ytnholkjgdpapbaa
set_option linter.unusedVariables false
set_option linter.unusedSimpArgs false
set_option maxRecDepth 10000
open Go.RowKit

/-- An element of an array that lies in a slot. -/
def ix (T : TypeId) (x i : Value) : Sem Value := Instr.index T x i
theorem run_ix {P : Program} (w : World) {T e : TypeId} {n : Nat} {k' : IntKind} (hu : P.underlying T = some (.array n e)) (he : P.underlying e = some (.int k')) (hs : (P.info? e).map (·.size) = some 1) (cs : Array Value) (k : Nat) (v : Value) (hk : k < n) (hv : cs[k]? = some v) :
    (ix T (.agg cs) (.int .i64 (k : Int))).run P w = .ok v w := by
  obtain ⟨i, hi, h1⟩ := Option.map_eq_some_iff.1 hs
  have hk' : 0 ≤ (k : Int) ∧ (k : Int) < (n : Int) := by omega
  have ha : asIntOf (.int .i64 (k : Int)) = pure (IntKind.i64, (k : Int)) := rfl
  simp [ix, Instr.index, ha, run_underlying hu, hk', sizeOf, typeInfo, hi, h1, part, isAgg, run_underlying he, hv]
  intro h; omega
@[go_sem ↓] theorem ex_ix_64 (ρ : Operand → Value) (dst : Option Tmp) (x y : Operand) (ty : TypeId) (pos : String) (aft : Array Edge) (gd : Option (Nat × Bool)) :
    execOp ρ ⟨dst, .index 106 x y, ty, pos, aft, gd⟩ = (do pure (.value (← ix 106 (ρ x) (ρ y)))) := rfl
theorem size_u32 : (Try.prog.info? 80).map (·.size) = some 1 := by kernel_rfl
theorem run_ix_k (k : Nat) (hk : k < 64) (w : World) : (ix 106 (.agg kC) (.int .i64 (k : Int))).run Try.prog w = .ok (u32 (kTab.getD k 0)) w := by
  refine run_ix w Try.underlying106 Try.underlying80 size_u32 kC k _ hk ?_
  have : k < kTab.length := hk
  simp [kC, List.getD, this]

/-- The window of sixteen words ahead of round k. -/
def WinP (ws : List UInt32) (k : Nat) (g : List UInt32) : Prop := g.length = 16 ∧ ∀ t, t < max k 16 → max k 16 ≤ t + 16 → g.getD (t % 16) 0 = ws.getD t 0
theorem winP_zero (l : List UInt32) (hl : l.length = 16) : WinP (sched l) 0 l := ⟨hl, fun t h1 h2 => by
  have ht : t < 16 := by omega
  rw [Nat.mod_eq_of_lt ht, sched_lo l t (by omega)]⟩
theorem winP_lo {ws : List UInt32} {k : Nat} {g : List UInt32} (h : WinP ws k g) (hk : k < 16) : WinP ws (k + 1) g ∧ g.getD (k % 16) 0 = ws.getD k 0 :=
  ⟨⟨h.1, fun t h1 h2 => h.2 t (by omega) (by omega)⟩, h.2 k (by omega) (by omega)⟩
theorem winP_hi_ {ws : List UInt32} {k : Nat} {g : List UInt32} (h : WinP ws k g) (h16 : 16 ≤ k)
    (hw : ws.getD k 0 = sig1 (ws.getD (k - 2) 0) + ws.getD (k - 7) 0 + sig0 (ws.getD (k - 15) 0) + ws.getD (k - 16) 0) (x : UInt32)
    (hx : x = g.getD (k % 16) 0 + (sig1 (g.getD ((k - 2) % 16) 0) + g.getD ((k - 7) % 16) 0 + sig0 (g.getD ((k - 15) % 16) 0))) :
    WinP ws (k + 1) (g.set (k % 16) x) ∧ (g.set (k % 16) x).getD (k % 16) 0 = ws.getD k 0 := by
  have e0 : g.getD (k % 16) 0 = ws.getD (k - 16) 0 := by
    have hm : (k - 16) % 16 = k % 16 := by omega
    rw [← hm]; exact h.2 (k - 16) (by omega) (by omega)
  have e2 := h.2 (k - 2) (by omega) (by omega)
  have e7 := h.2 (k - 7) (by omega) (by omega)
  have e15 := h.2 (k - 15) (by omega) (by omega)
  have hnew : x = ws.getD k 0 := by
    rw [hx, e0, e2, e7, e15, hw, UInt32.add_comm]
  have hm : k % 16 < g.length := by rw [h.1]; omega
  subst hnew
  have hset : ∀ j, (g.set (k % 16) (ws.getD k 0)).getD j 0 = if k % 16 = j then ws.getD k 0 else g.getD j 0 := fun j => by
    simp only [List.getD, List.getElem?_set]
    split
    · rename_i hj; subst hj; simp [hm]
    · rfl
  refine ⟨⟨by rw [List.length_set, h.1], fun t h1 h2 => ?_⟩, ?_⟩
  · rw [hset]
    by_cases ht : t = k
    · subst ht; simp
    · rw [if_neg (by omega)]; exact h.2 t (by omega) (by omega)
  · rw [hset, if_pos rfl]
theorem winP_hi {l : List UInt32} {k : Nat} {g : List UInt32} (hl : l.length = 16) (h : WinP (sched l) k g) (h16 : 16 ≤ k) (hk : k < 64) (x : UInt32)
    (hx : x = g.getD (k % 16) 0 + (sig1 (g.getD ((k - 2) % 16) 0) + g.getD ((k - 7) % 16) 0 + sig0 (g.getD ((k - 15) % 16) 0))) :
    WinP (sched l) (k + 1) (g.set (k % 16) x) ∧ (g.set (k % 16) x).getD (k % 16) 0 = (sched l).getD k 0 :=
  winP_hi_ h h16 (sched_hi l hl k h16 hk) x hx
theorem right_still (x : UInt32) (i : Int) (w : World) (hi : Rot i) : Calls Try.prog 65 #[u32 x, .int .i64 i] w fun e w' => e = .returned (u32 (rotr x i.toNat)) ∧ w' = w :=
  (right_int x i w hi).mono fun _ _ ⟨h1, h2⟩ => ⟨h1, h2.symm⟩
theorem wsC_get (g : List UInt32) (j : Nat) (h : j < g.length) : (wsC g)[j]? = some (u32 (g.getD j 0)) := by
  simp [wsC, List.getD, h]

theorem alloc3 (w : World) (t0 t1 t2 : TypeId) (c0 c1 c2 : Array Value) :
    Blk (((w.alloc (.cells c0 t0)).alloc (.cells c1 t1)).alloc (.cells c2 t2)) w.heap.size t0 c0 ∧ Blk (((w.alloc (.cells c0 t0)).alloc (.cells c1 t1)).alloc (.cells c2 t2)) (w.heap.size + 1) t1 c1 ∧
    Blk (((w.alloc (.cells c0 t0)).alloc (.cells c1 t1)).alloc (.cells c2 t2)) (w.heap.size + 2) t2 c2 ∧ Fr0 w (((w.alloc (.cells c0 t0)).alloc (.cells c1 t1)).alloc (.cells c2 t2)) ∧ (((w.alloc (.cells c0 t0)).alloc (.cells c1 t1)).alloc (.cells c2 t2)).heap.size = w.heap.size + 3 := by
  refine ⟨((Blk.new w t0 c0).alloc _).alloc _, ?_, ?_, (((Fr.refl _ w).alloc _).alloc _).alloc _, by simp⟩
  · have := (Blk.new (w.alloc (.cells c0 t0)) t1 c1).alloc (.cells c2 t2)
    rwa [show (w.alloc (.cells c0 t0)).heap.size = w.heap.size + 1 by simp] at this
  · have := Blk.new ((w.alloc (.cells c0 t0)).alloc (.cells c1 t1)) t2 c2
    rwa [show ((w.alloc (.cells c0 t0)).alloc (.cells c1 t1)).heap.size = w.heap.size + 2 by simp] at this

theorem Blk.putAll {w : World} {g : Nat} {t : TypeId} {c : Array Value} (h : Blk w g t c) (cs : Array Value) (hs : c.size = cs.size) : Blk (putW w g 0 cs) g t cs := by
  have := h.put 0 cs
  rwa [putAt_all c cs hs] at this
structure PrSt (s : St) (l : List UInt32) (w : World) (k : Nat) (g : List UInt32) (wr : World) : Prop where
  b0 : Blk wr w.heap.size 117 (stC s)
  b1 : Blk wr (w.heap.size + 1) 124 (wsC g)
  b2 : Blk wr (w.heap.size + 2) 117 (stC ⟨0, 0, 0, 0, 0, 0, 0, 0⟩)
  b3 : Blk wr (w.heap.size + 3) 117 (stC (rounds (sched l) s k))
  win : WinP (sched l) k g
  fr : Fr0 w wr

theorem PrSt.drew {s : St} {l : List UInt32} {w : World} {k : Nat} {g : List UInt32} {wr : World} (h : PrSt s l w k g wr) : PrSt s l w k g wr.drew := ⟨h.b0.drew, h.b1.drew, h.b2.drew, h.b3.drew, h.win, h.fr.drew⟩
set_option maxHeartbeats 4000000 in
set_option maxRecDepth 10000 in
theorem process_any (s : St) (l : List UInt32) (w : World) (hl : l.length = 16) :
    Calls Try.prog 62 #[stV s, .agg (wsC l)] w fun e w' => e = .returned (stV (proc s l)) ∧ Fr0 w w' := by
  have HL := Lib.hid hl
  clear hl
  obtain ⟨G, hG⟩ : ∃ G, G = wsC l := ⟨_, rfl⟩
  rw [← hG]
  have HG := Lib.hid hG
  clear hG
  obtain ⟨hb0, hb1, hb2, hf3, hz3⟩ := alloc3 w 117 124 117 (stC s) G #[.int .u32 0, .int .u32 0, .int .u32 0, .int .u32 0, .int .u32 0, .int .u32 0, .int .u32 0, .int .u32 0]
  obtain ⟨w3, hw3⟩ : ∃ w3, w3 = (((w.alloc (.cells (stC s) 117)).alloc (.cells G 124)).alloc (.cells #[.int .u32 0, .int .u32 0, .int .u32 0, .int .u32 0, .int .u32 0, .int .u32 0, .int .u32 0, .int .u32 0] 117)) := ⟨_, rfl⟩
  rw [← hw3] at hb0 hb1 hb2 hf3 hz3
  have hl0 := blk_all hb0 (n := 8) rfl
  have HB0 := Lib.hid hb0
  have HB1 := Lib.hid hb1
  have HB2 := Lib.hid hb2
  have HF3 := Lib.hid hf3
  have HZ3 := Lib.hid hz3
  rw [hw3] at hl0
  have HW3 := Lib.hid hw3
  clear hb0 hb1 hb2 hf3 hz3 hw3
  go_enter Try.func62, Try.ntmps62
  go_wp2_with fail
  refine (const_any _).mono ?_
  rintro e w4 ⟨rfl, hf⟩
  rw [← HW3.out] at hf
  have HP := Lib.hid (show PrSt s l w 0 l w4 from ⟨(HB0.out.alloc _).fr hf (fun h => h), by rw [← HG.out]; exact (HB1.out.alloc _).fr hf (fun h => h), (HB2.out.alloc _).fr hf (fun h => h), by rw [← HZ3.out]; exact (Blk.new w3 _ _).fr hf (fun h => h), winP_zero l HL.out, (HF3.out.alloc _).trans hf⟩)
  clear hl0 hf
  go_wp2_with fail
  go_loopw [13] (fun iv wr => ∃ (k : Nat) (g : List UInt32), k ≤ 64 ∧ iv = .int .i64 k ∧ PrSt s l w k g wr) (fun i _ => 64 - (intOf i).toNat)
  case atStart => exact ⟨0, l, by omega, rfl, HP.out⟩
  case round =>
    obtain ⟨k, g, hk, rfl, hp⟩ := hrel
    by_cases hlt : k < 64
    · have hix := run_ix_k k hlt
      obtain ⟨j, hj⟩ : ∃ j, j = k % 16 := ⟨_, rfl⟩
      have hj16 : j < 16 := by omega
      have hjg : j < g.length := by rw [hp.win.1]; exact hj16
      have hci : (Proofs.Ytnholkjgdpapbaa.wsC g)[j]? = some (Proofs.Ytnholkjgdpapbaa.u32 (g.getD j 0)) := wsC_get g j hjg
      have hc1 := (hp.b1.cell j).trans hci
      have hl3 := blk_all hp.b3 (n := 8) rfl
      have ok3 := hp.b3.okA 0 8 (by simp)
      by_cases h16 : k < 16
      · have HP := Lib.hid hp
        have HW := Lib.hid (winP_lo hp.win h16)
        have HJ := Lib.hid hj
        have z1 : (0 : Int) ≤ (j : Int) := by omega
        have z2 : (j : Int) < 16 := by omega
        have z3 : (k : Int) < 16 := by omega
        have hm : (k : Int) % 16 = (j : Int) := by omega
        have hm' : (k : Int).tmod 16 = (j : Int) := by rw [Int.tmod_eq_emod_of_nonneg (by omega)]; exact hm
        clear hp hj hjg hci
        go_wp2_with fail
        go_still_tail 5, (by kernel_rfl)
        change wpList _ _ _ _ _ wr.drew
        go_wp2_with fail
        refine (round_any _ _ _ _).mono ?_
        rintro e w5 ⟨rfl, hf⟩
        have hf' : Fr0 wr w5 := ((Fr.refl _ wr).drew).trans hf
        have hb3 := HP.out.b3.fr hf' (fun h => h)
        have hok5 := hb3.okA 0 8 (by simp)
        have HB5 := Lib.hid hb3
        have HF5 := Lib.hid hf'
        clear hf hf' hb3 z1 z2 z3 hm hm' hl3 ok3 hc1
        go_wp2_with fail
        go_roundw
        case rel =>
          have hF := (Fr.refl (fun i => i = w.heap.size + 3) w5).put (b := w.heap.size + 3) (fun _ => rfl) 0 (stC (rnd (rounds (sched l) s k) (kTab.getD k 0) (g.getD j 0)))
          have h3 := HB5.out.putAll (stC (rnd (rounds (sched l) s k) (kTab.getD k 0) (g.getD j 0))) rfl
          refine ⟨k + 1, g, by omega, by go_num, ⟨(HP.out.b0.fr HF5.out (fun h => h)).fr hF (by omega), (HP.out.b1.fr HF5.out (fun h => h)).fr hF (by omega), (HP.out.b2.fr HF5.out (fun h => h)).fr hF (by omega), ?_, HW.out.1, (HP.out.fr.trans HF5.out).then_ (S := fun _ => False) hF (fun i hi e => by omega)⟩⟩
          have hr : rounds (sched l) s (k + 1) = rnd (rounds (sched l) s k) (kTab.getD k 0) (g.getD j 0) := by
            rw [rounds, ← HW.out.2, ← HJ.out]
          rw [hr]
          exact h3
        case measure => simp [intOf]; omega
      · have HP := Lib.hid hp
        obtain ⟨a15, h15⟩ : ∃ a, a = k - 15 := ⟨_, rfl⟩
        obtain ⟨a2, h2⟩ : ∃ a, a = k - 2 := ⟨_, rfl⟩
        obtain ⟨a7, h7⟩ : ∃ a, a = k - 7 := ⟨_, rfl⟩
        obtain ⟨j15, g15⟩ : ∃ a, a = a15 % 16 := ⟨_, rfl⟩
        obtain ⟨j2, g2⟩ : ∃ a, a = a2 % 16 := ⟨_, rfl⟩
        obtain ⟨j7, g7⟩ : ∃ a, a = a7 % 16 := ⟨_, rfl⟩
        have hg16 := hp.win.1
        have c15 := (hp.b1.cell j15).trans (wsC_get g j15 (by omega))
        have c2 := (hp.b1.cell j2).trans (wsC_get g j2 (by omega))
        have c7 := (hp.b1.cell j7).trans (wsC_get g j7 (by omega))
        have hfz := hp.b1.frozen j
        have HW := Lib.hid (winP_hi HL.out hp.win (by omega) hlt (g.getD j 0 + (sig1 (g.getD j2 0) + g.getD j7 0 + sig0 (g.getD j15 0))) (by rw [hj, g15, g2, g7, h15, h2, h7]))
        have HG16 := Lib.hid hg16
        have z1 : (0 : Int) ≤ (j : Int) := by omega
        have z2 : (j : Int) < 16 := by omega
        have z3 : (16 : Int) ≤ (k : Int) := by omega
        have y1 : (0 : Int) ≤ (j15 : Int) := by omega
        have y2 : (j15 : Int) < 16 := by omega
        have y3 : (0 : Int) ≤ (j2 : Int) := by omega
        have y4 : (j2 : Int) < 16 := by omega
        have y5 : (0 : Int) ≤ (j7 : Int) := by omega
        have y6 : (j7 : Int) < 16 := by omega
        have hm : (k : Int) % 16 = (j : Int) := by omega
        have hm' : (k : Int).tmod 16 = (j : Int) := by rw [Int.tmod_eq_emod_of_nonneg (by omega)]; exact hm
        have w15 : IntKind.i64.wrap ((k : Int) - 15) = (a15 : Int) := by rw [IntWalk.i64_in _ (by omega)]; omega
        have w2 : IntKind.i64.wrap ((k : Int) - 2) = (a2 : Int) := by rw [IntWalk.i64_in _ (by omega)]; omega
        have w7 : IntKind.i64.wrap ((k : Int) - 7) = (a7 : Int) := by rw [IntWalk.i64_in _ (by omega)]; omega
        have r15 : (a15 : Int) % 16 = (j15 : Int) := by omega
        have r2 : (a2 : Int) % 16 = (j2 : Int) := by omega
        have r7 : (a7 : Int) % 16 = (j7 : Int) := by omega
        have q15 : (a15 : Int).tmod 16 = (j15 : Int) := by rw [Int.tmod_eq_emod_of_nonneg (by omega)]; exact r15
        have q2 : (a2 : Int).tmod 16 = (j2 : Int) := by rw [Int.tmod_eq_emod_of_nonneg (by omega)]; exact r2
        have q7 : (a7 : Int).tmod 16 = (j7 : Int) := by rw [Int.tmod_eq_emod_of_nonneg (by omega)]; exact r7
        have x15 : (k : Int) - 15 = (a15 : Int) := by omega
        have x2 : (k : Int) - 2 = (a2 : Int) := by omega
        have x7 : (k : Int) - 7 = (a7 : Int) := by omega
        have v15 : IntKind.i64.wrap (a15 : Int) = (a15 : Int) := IntWalk.i64_in _ (by omega)
        have v2 : IntKind.i64.wrap (a2 : Int) = (a2 : Int) := IntWalk.i64_in _ (by omega)
        have v7 : IntKind.i64.wrap (a7 : Int) = (a7 : Int) := IntWalk.i64_in _ (by omega)
        have HJ := Lib.hid hj
        clear hp hj hjg hci h15 h2 h7 g15 g2 g7 hg16
        go_wp2_with fail
        go_still (by kernel_rfl)
        have HP := Lib.hid HP.out.drew
        have c15 := (HP.out.b1.cell j15).trans (wsC_get g j15 (by have := HG16.out; omega))
        have c2 := (HP.out.b1.cell j2).trans (wsC_get g j2 (by have := HG16.out; omega))
        have c7 := (HP.out.b1.cell j7).trans (wsC_get g j7 (by have := HG16.out; omega))
        have hc1 := (HP.out.b1.cell j).trans (wsC_get g j (by have := HG16.out; omega))
        have hfz := HP.out.b1.frozen j
        change Exit.then _ _ Exit.normal _ wr.drew
        generalize wr.drew = wd at *
        go_wp2_with fail
        refine wp_region_still_tail 28 (by kernel_rfl) (by kernel_rfl) ?_
        simp only [List.take_succ_cons, List.take_zero, List.drop_succ_cons, List.drop_zero]
        repeat (first | still_step | (still_call (right_still _ _ _ (by decide))))
        refine wpStill_nil ?_
        change wpList _ _ _ _ _ wd.drew
        go_wp2_with fail
        obtain ⟨X, hX⟩ : ∃ X, X = g.getD j 0 + (sig1 (g.getD j2 0) + g.getD j7 0 + sig0 (g.getD j15 0)) := ⟨_, rfl⟩
        have hW := HW.out
        rw [← hX, ← HJ.out] at hW
        have hS1 := HP.out.b1.set_ j (Proofs.Ytnholkjgdpapbaa.u32 X)
        rw [wsC_set] at hS1
        have hF1 := (Fr.refl (fun i => i = w.heap.size + 1) wd).setCell (p := ⟨w.heap.size + 1, j, none⟩) (fun _ => rfl) (Proofs.Ytnholkjgdpapbaa.u32 X)
        have h0 := HP.out.b0.fr hF1 (by omega)
        have h2 := HP.out.b2.fr hF1 (by omega)
        have h3 := HP.out.b3.fr hF1 (by omega)
        have hF0 := HP.out.fr.then_ (S := fun _ => False) hF1 (fun i hi e => by omega)
        change Code.wp _ _ _ _ (wd.setCell ⟨w.heap.size + 1, j, none⟩ (Proofs.Ytnholkjgdpapbaa.u32 (g.getD j 0 + (sig1 (g.getD j2 0) + g.getD j7 0 + sig0 (g.getD j15 0))))).drew
        rw [← hX]
        have H0 := Lib.hid h0.drew
        have H1 := Lib.hid hS1.drew
        have H2 := Lib.hid h2.drew
        have H3 := Lib.hid h3.drew
        have HF0 := Lib.hid hF0.drew
        have HW' := Lib.hid hW
        clear h0 hS1 h2 h3 hF0 hF1 hW hX HW HP hc1 hfz c15 c2 c7 hl3 ok3
        generalize (wd.setCell ⟨w.heap.size + 1, j, none⟩ (Proofs.Ytnholkjgdpapbaa.u32 X)).drew = we at *
        have hg' : j < (g.set j X).length := by rw [HW'.out.1.1]; exact hj16
        have hc1 := (H1.out.cell j).trans (wsC_get _ j hg')
        have hl3 := blk_all H3.out (n := 8) rfl
        have hgj : (g.set j X).getD j 0 = (g.set j X)[j]?.getD 0 := rfl
        generalize hGN : g.set j X = gn at *
        clear w15 w2 w7 r15 r2 r7 q15 q2 q7 x15 x2 x7 v15 v2 v7 y1 y2 y3 y4 y5 y6 hg' hgj
        go_wp2_with fail
        go_still_tail 5, (by kernel_rfl)
        change wpList _ _ _ _ _ we.drew
        go_wp2_with fail
        refine (round_any _ _ _ _).mono ?_
        rintro e w5 ⟨rfl, hf⟩
        have hf' : Fr0 we w5 := ((Fr.refl _ we).drew).trans hf
        have hb3 := H3.out.fr hf' (fun h => h)
        have hok5 := hb3.okA 0 8 (by simp)
        have HB5 := Lib.hid hb3
        have HF5 := Lib.hid hf'
        clear hf hf' hb3 z1 z2 z3 hm hm' hl3 hc1
        go_wp2_with fail
        go_roundw
        case rel =>
          have hF := (Fr.refl (fun i => i = w.heap.size + 3) w5).put (b := w.heap.size + 3) (fun _ => rfl) 0 (stC (rnd (rounds (sched l) s k) (kTab.getD k 0) (gn.getD j 0)))
          have h3 := HB5.out.putAll (stC (rnd (rounds (sched l) s k) (kTab.getD k 0) (gn.getD j 0))) rfl
          refine ⟨k + 1, gn, by omega, by go_num, ⟨(H0.out.fr HF5.out (fun h => h)).fr hF (by omega), (H1.out.fr HF5.out (fun h => h)).fr hF (by omega), (H2.out.fr HF5.out (fun h => h)).fr hF (by omega), ?_, HW'.out.1, (HF0.out.trans HF5.out).then_ (S := fun _ => False) hF (fun i hi e => by omega)⟩⟩
          have hr : rounds (sched l) s (k + 1) = rnd (rounds (sched l) s k) (kTab.getD k 0) (gn.getD j 0) := by
            rw [rounds, ← HW'.out.2]
          rw [hr]
          exact h3
        case measure => simp [intOf]; omega
    · have hk64 : k = 64 := by omega
      subst hk64
      have hl3 := blk_all hp.b3 (n := 8) rfl
      have hl0 := blk_all hp.b0 (n := 8) rfl
      have HP := Lib.hid hp
      clear hp
      go_wp2_with fail
      refine (plus_any _ _ _).mono ?_
      rintro e w5 ⟨rfl, hf⟩
      have hb2 := HP.out.b2.fr hf (fun h => h)
      have hok5 := hb2.okA 0 8 (by simp)
      have HB5 := Lib.hid hb2
      have HF5 := Lib.hid hf
      clear hf hb2 hl3 hl0
      go_wp2_with fail
      refine bodyPost_agg (n := 8) (cs := stC (proc s l)) rfl Try.underlying117 rfl info_bulletin_sha256_words (by rfl) ?_ rfl ⟨rfl, ?_⟩
      · exact ldA_put HB5.out _ rfl rfl
      · exact ((HP.out.fr.trans HF5.out).put (S := fun _ => False) (fun h => by omega) _ _)
end Go.Proofs.Ytnholkjgdpapbaa
