/- SHA-256: the reference: schedule, padded. No condition beyond the lengths that are named. -/
import Derived.Test.YtnholkjgdpapbaaShaE
namespace Go.Proofs.Ytnholkjgdpapbaa
set_option linter.unusedVariables false
set_option linter.unusedSimpArgs false
set_option maxRecDepth 10000
open Go.RowKit
attribute [local go_sem ↓] Go.wp_at_zero Go.wp_at_succ

structure ScSt (ws : List UInt32) (w : World) (k : Nat) (wr : World) : Prop where
  b0 : Blk wr w.heap.size 106 (wsC (List.replicate 64 0))
  b1 : Blk wr (w.heap.size + 1) 106 (wsC (ws.take k ++ List.replicate (64 - k) 0))
  fr : Fr0 w wr
theorem ScSt.drewN {ws : List UInt32} {w : World} {k : Nat} {wr : World} (h : ScSt ws w k wr) (n : Nat) : ScSt ws w k (wr.drewN n) := ⟨h.b0.drewN n, h.b1.drewN n, h.fr.drewN n⟩
theorem ScSt.drew {ws : List UInt32} {w : World} {k : Nat} {wr : World} (h : ScSt ws w k wr) : ScSt ws w k wr.drew := ⟨h.b0.drew, h.b1.drew, h.fr.drew⟩
theorem ScSt.step {ws : List UInt32} {w : World} {k : Nat} {wr : World} (h : ScSt ws w k wr) (hw : ws.length = 64) (hk : k < 64) (x : UInt32) (hx : x = ws.getD k 0) : ScSt ws w (k + 1) (wr.setCell ⟨w.heap.size + 1, k, none⟩ (u32 x)) := by
  have h1 := h.b1.set_ k (u32 x)
  rw [hx, fill_step ws hw hk] at h1
  rw [hx]
  exact ⟨h.b0.far (by dsimp only; omega) _, h1, h.fr.setCell (fun h => by dsimp only at h; omega) _⟩
theorem ScSt.at_ {ws : List UInt32} {w : World} {k j : Nat} {wr : World} (h : ScSt ws w k wr) (hw : ws.length = 64) (hj : j < k) (hk : k ≤ 64) : wr.cell? ⟨w.heap.size + 1, j, none⟩ = some (u32 (ws.getD j 0)) := by
  rw [h.b1.cell j]
  have h1 : (ws.take k).length = k := by simp [hw]; omega
  show (((ws.take k ++ List.replicate (64 - k) 0).map u32).toArray)[j]? = _
  have h2 : j < ws.length := by omega
  rw [List.getElem?_toArray, List.getElem?_map, List.getElem?_append_left (by omega), List.getElem?_take, if_pos hj, List.getElem?_eq_getElem h2]
  simp [List.getD, h2]
theorem cell_set_ne {w : World} {g i j : Nat} {v u : Value} (h : w.cell? ⟨g, j, none⟩ = some v) (hne : i ≠ j) : (w.setCell ⟨g, i, none⟩ u).cell? ⟨g, j, none⟩ = some v := by
  obtain ⟨cur, e, fz, hh, hc⟩ := cells_of_cell h
  have h1 : (w.setCell ⟨g, i, none⟩ u).heap[g]? = some (.cells (cur.setIfInBounds i u) e fz) := by simp [World.setCell, Array.getElem?_modify, hh]
  simp only [World.cell?, h1]
  rw [Array.getElem?_setIfInBounds, if_neg hne]
  exact hc
theorem arr64_st (ws : List UInt32) (hw : ws.length = 64) (w : World) (b p : Nat) (h : okA w b p 64 = true) : (st 106 (.pointer (some ⟨b, p, none⟩)) (.agg (wsC ws))).run Try.prog w = .ok () (putW w b p (wsC ws)) :=
  run_st w _ (by rw [info__64_uint32]; simp [hw]) (by simp [wsC]) b p (by simpa [hw] using h)

set_option maxHeartbeats 4000000 in
set_option maxRecDepth 10000 in
theorem sched_any (l : List UInt8) (n c : Nat) (A : Option Addr) (w : World) (h64 : l.length = 64) (hs : Sl w 5 1 (.slice A n c) l.length (bs l)) :
    Calls Try.prog 54 #[.slice A n c] w fun e w' => e = .returned (.agg (wsC (sched (wds l)))) ∧ Fr0 w w' := by
  obtain ⟨Ax, cx, hAx, _, _⟩ := hs.form
  injection hAx with hA1 hA2 hA3
  subst hA1; subst hA2; subst hA3
  obtain ⟨b, off, rfl, hb, hx⟩ := hs.at_ (k := 0) (by omega)
  have HS := Lib.hid hs
  have HX := Lib.hid hx
  clear hs hx
  obtain ⟨ws, hws⟩ : ∃ ws, ws = sched (wds l) := ⟨_, rfl⟩
  have hwl : ws.length = 64 := by rw [hws]; exact sched_length _ (wds_length _)
  have hlo : ∀ k, k < 16 → ws.getD k 0 = word l (4 * k) := fun k hk => by
    rw [hws, sched_lo _ _ (by rw [wds_length]; exact hk)]
    have := wds_get l k hk
    rwa [List.take_of_length_le (by omega)] at this
  have hhi : ∀ k, 16 ≤ k → k < 64 → ws.getD k 0 = sig1 (ws.getD (k - 2) 0) + ws.getD (k - 7) 0 + sig0 (ws.getD (k - 15) 0) + ws.getD (k - 16) 0 := fun k h1 h2 => by
    rw [hws]; exact sched_hi _ (wds_length _) k h1 h2
  have HLO := Lib.hid hlo
  have HHI := Lib.hid hhi
  have HWS := Lib.hid hws
  have HWL := Lib.hid hwl
  clear hws hwl hlo hhi
  go_enter Try.func54, Try.ntmps54
  go_wp2_with fail
  go_loopw [4] (fun iv wr => ∃ k : Nat, k ≤ 64 ∧ iv = .int .i64 k ∧ ScSt ws w k wr) (fun i _ => 64 - (intOf i).toNat)
  case atStart =>
    refine ⟨0, by omega, rfl, ⟨(Blk.new w 106 (wsC (List.replicate 64 0))).alloc _, ?_, ((Fr.refl _ _).alloc _).alloc _⟩⟩
    have h := Blk.new (w.alloc (.cells (wsC (List.replicate 64 0)) 106)) 106 (wsC (List.replicate 64 0))
    rw [show (w.alloc (.cells (wsC (List.replicate 64 0)) 106)).heap.size = w.heap.size + 1 by simp] at h
    exact h
  case round =>
    obtain ⟨k, hk, rfl, hP⟩ := hrel
    by_cases hlt : k < 64
    · have hc := hP.b1.cell k
      rw [fill_get ws HWL.out hlt] at hc
      have hfz := hP.b1.frozen k
      by_cases h16 : k < 16
      · have hx := HX.out
        have hld : ∀ i, i < 64 → wr.cell? ⟨b, off + i, none⟩ = some (Proofs.Ytnholkjgdpapbaa.u8 (l.getD i 0)) := fun i hi => by
          rw [hP.fr.cell (p := ⟨b, off + i, none⟩) hb (fun h => h)]
          refine hx i _ ?_
          have : i < l.length := by omega
          simp [bs, List.getD, this]
        have hl0 := hld (4 * k) (by omega)
        have hl1 := hld (4 * k + 1) (by omega)
        have hl2 := hld (4 * k + 2) (by omega)
        have hl3 := hld (4 * k + 3) (by omega)
        have HP := Lib.hid hP
        have z0 : 0 ≤ 4 * (k : Int) := by omega
        have z1 : 0 ≤ 4 * (k : Int) + 1 := by omega
        have z2 : 0 ≤ 4 * (k : Int) + 2 := by omega
        have z3 : 0 ≤ 4 * (k : Int) + 3 := by omega
        have y0 : 4 * (k : Int) < (l.length : Int) := by omega
        have y1 : 4 * (k : Int) + 1 < (l.length : Int) := by omega
        have y2 : 4 * (k : Int) + 2 < (l.length : Int) := by omega
        have y3 : 4 * (k : Int) + 3 < (l.length : Int) := by omega
        have m0 : IntKind.i64.wrap (4 * (k : Int)) = 4 * (k : Int) := IntWalk.i64_in _ (by omega)
        have m1 : IntKind.i64.wrap (4 * (k : Int) + 1) = 4 * (k : Int) + 1 := IntWalk.i64_in _ (by omega)
        have m2 : IntKind.i64.wrap (4 * (k : Int) + 2) = 4 * (k : Int) + 2 := IntWalk.i64_in _ (by omega)
        have m3 : IntKind.i64.wrap (4 * (k : Int) + 3) = 4 * (k : Int) + 3 := IntWalk.i64_in _ (by omega)
        have n0 : (4 * (k : Int)).toNat = 4 * k := by omega
        have n1 : (4 * (k : Int) + 1).toNat = 4 * k + 1 := by omega
        have n2 : (4 * (k : Int) + 2).toNat = 4 * k + 2 := by omega
        have n3 : (4 * (k : Int) + 3).toNat = 4 * k + 3 := by omega
        clear hx hld hP
        have H64 := Lib.hid h64
        clear h64
        go_wp2_with fail
        go_still_tail 35, (by kernel_rfl)
        change wpList _ _ _ _ _ wr.drew
        go_wp2_with fail
        clear m0 m1 m2 m3 n0 n1 n2 n3 z0 z1 z2 z3 y0 y1 y2 y3
        go_roundw
        case rel => exact ⟨k + 1, by omega, by go_num, (HP.out.step HWL.out hlt _ (HLO.out k h16).symm).drew⟩
        case measure => simp [intOf]; omega
      · have c2 := hP.at_ HWL.out (show k - 2 < k by omega) hk
        have c7 := hP.at_ HWL.out (show k - 7 < k by omega) hk
        have c15 := hP.at_ HWL.out (show k - 15 < k by omega) hk
        have c16 := hP.at_ HWL.out (show k - 16 < k by omega) hk
        have HP := Lib.hid hP
        have hx := HHI.out k (by omega) hlt
        obtain ⟨a2, h2⟩ : ∃ a, a = k - 2 := ⟨_, rfl⟩
        obtain ⟨a7, h7⟩ : ∃ a, a = k - 7 := ⟨_, rfl⟩
        obtain ⟨a15, h15⟩ : ∃ a, a = k - 15 := ⟨_, rfl⟩
        obtain ⟨a16, h16'⟩ : ∃ a, a = k - 16 := ⟨_, rfl⟩
        rw [← h2, ← h7, ← h15, ← h16'] at hx
        rw [← h2] at c2
        rw [← h7] at c7
        rw [← h15] at c15
        rw [← h16'] at c16
        have HHX := Lib.hid hx
        have i2 : (a2 : Int) < 64 := by omega
        have i7 : (a7 : Int) < 64 := by omega
        have i15 : (a15 : Int) < 64 := by omega
        have i16 : (a16 : Int) < 64 := by omega
        have w2 : IntKind.i64.wrap ((k : Int) - 2) = (a2 : Int) := by rw [IntWalk.i64_in _ (by omega)]; omega
        have w7 : IntKind.i64.wrap ((k : Int) - 7) = (a7 : Int) := by rw [IntWalk.i64_in _ (by omega)]; omega
        have w15 : IntKind.i64.wrap ((k : Int) - 15) = (a15 : Int) := by rw [IntWalk.i64_in _ (by omega)]; omega
        have w16 : IntKind.i64.wrap ((k : Int) - 16) = (a16 : Int) := by rw [IntWalk.i64_in _ (by omega)]; omega
        have x2 : (k : Int) - 2 = (a2 : Int) := by omega
        have x7 : (k : Int) - 7 = (a7 : Int) := by omega
        have x15 : (k : Int) - 15 = (a15 : Int) := by omega
        have x16 : (k : Int) - 16 = (a16 : Int) := by omega
        have v2 : IntKind.i64.wrap (a2 : Int) = (a2 : Int) := IntWalk.i64_in _ (by omega)
        have v7 : IntKind.i64.wrap (a7 : Int) = (a7 : Int) := IntWalk.i64_in _ (by omega)
        have v15 : IntKind.i64.wrap (a15 : Int) = (a15 : Int) := IntWalk.i64_in _ (by omega)
        have v16 : IntKind.i64.wrap (a16 : Int) = (a16 : Int) := IntWalk.i64_in _ (by omega)
        have H64 := Lib.hid h64
        clear hP hx h64 h2 h7 h15 h16'
        go_wp2_with fail
        go_still (by kernel_rfl)
        change Exit.then _ _ Exit.normal _ wr.drew
        have c2 := show wr.drew.cell? _ = _ from c2
        have c7 := show wr.drew.cell? _ = _ from c7
        have c15 := show wr.drew.cell? _ = _ from c15
        have c16 := show wr.drew.cell? _ = _ from c16
        have hc := show wr.drew.cell? _ = _ from hc
        have hfz := show wr.drew.frozen? _ = _ from hfz
        have HP := Lib.hid HP.out.drew
        generalize wr.drew = wd at *
        go_wp2_with fail
        go_region_held3 (fun w' => w'.cell? ⟨w.heap.size + 1, a7, none⟩ = some (Proofs.Ytnholkjgdpapbaa.u32 (ws.getD a7 0)) ∧ w'.cell? ⟨w.heap.size + 1, a16, none⟩ = some (Proofs.Ytnholkjgdpapbaa.u32 (ws.getD a16 0))) (first | exact ⟨c7, c16⟩ | exact ⟨cell_set_ne c7 (by omega), cell_set_ne c16 (by omega)⟩) (first | (go_at_call 55; refine (rotate_int _ _ _ (by decide)).mono ?_; rintro e wn ⟨rfl, kk, rfl⟩))
        all_goals
          go_wp2_with fail
          clear w2 w7 w15 w16 x2 x7 x15 x16 v2 v7 v15 v16 i2 i7 i15 i16 c2 c7 c15 c16 hc hfz
          go_roundw
          case rel => exact ⟨k + 1, by omega, by go_num, (HP.out.drewN _).step HWL.out hlt _ HHX.out.symm⟩
          case measure => simp [intOf]; omega
    · have hk64 : k = 64 := by omega
      subst hk64
      have hws : ws.take 64 ++ List.replicate (64 - 64) 0 = ws := by rw [List.take_of_length_le (by have := HWL.out; omega)]; simp
      have hb1 := hP.b1
      rw [hws] at hb1
      have hla := blk_all hb1 (n := 64) (by simp [HWL.out])
      have hok := hP.b0.okA 0 64 (by simp)
      have hst := arr64_st ws HWL.out
      have HP := Lib.hid hP
      have HE := Lib.hid (show Ending.returned (.agg (wsC ws)) = .returned (.agg (wsC (sched (wds l)))) by rw [HWS.out])
      have hGs : (wsC ws).size = 64 := by simp [HWL.out]
      have HGS := Lib.hid hGs
      clear hP hb1 hws hGs
      generalize wsC ws = G at *
      go_wp2_with fail
      refine bodyPost_agg (n := 64) (cs := G) rfl Try.underlying106 rfl info__64_uint32 (by rfl) ?_ rfl ?_
      · exact ldA_put HP.out.b0 _ HGS.out (by simp)
      · exact ⟨HE.out, HP.out.fr.put (S := fun _ => False) (fun h => by omega) _ _⟩
end Go.Proofs.Ytnholkjgdpapbaa
