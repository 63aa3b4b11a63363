/- SHA-256: the program's load and process. No condition beyond the lengths that are named. -/
import Derived.Test.YtnholkjgdpapbaaShaA
import Derived.Test.YtnholkjgdpapbaaOpen
import Derived.Deep.CutRange
import Derived.StillTailTactics
namespace Go.Proofs.Ytnholkjgdpapbaa
set_option linter.unusedVariables false
set_option linter.unusedSimpArgs false
set_option maxRecDepth 10000
open Go.RowKit

/-- Words in a list as cells. -/
abbrev wsC (l : List UInt32) : Array Value := (l.map u32).toArray
/-- A slice of bytes. -/
abbrev byS (w : World) (v : Value) (l : List UInt8) : Prop := Sl w 5 1 v l.length (bs l)

theorem fill_get {n k : Nat} (ws : List UInt32) (hw : ws.length = n) (hk : k < n) : (wsC (ws.take k ++ List.replicate (n - k) 0))[k]? = some (u32 0) := by
  have h1 : (ws.take k).length = k := by simp [hw]; omega
  show (((ws.take k ++ List.replicate (n - k) 0).map u32).toArray)[k]? = _
  rw [List.getElem?_toArray, List.getElem?_map, List.getElem?_append_right (by omega), h1, Nat.sub_self, List.getElem?_replicate, if_pos (by omega)]; rfl
theorem wsC_set (l : List UInt32) (k : Nat) (x : UInt32) : (wsC l).setIfInBounds k (u32 x) = wsC (l.set k x) := by
  simp [wsC, List.map_set]
theorem fill_step {n k : Nat} (ws : List UInt32) (hw : ws.length = n) (hk : k < n) : (wsC (ws.take k ++ List.replicate (n - k) 0)).setIfInBounds k (u32 (ws.getD k 0)) = wsC (ws.take (k + 1) ++ List.replicate (n - (k + 1)) 0) := by
  rw [wsC_set]
  have h1 : (ws.take k).length = k := by simp [hw]; omega
  rw [List.set_append_right _ _ (by omega), h1, Nat.sub_self, show n - k = (n - (k + 1)) + 1 by omega, List.replicate_succ, List.set_cons_zero, List.take_succ_eq_append_getElem (by omega : k < ws.length)]
  have e : ws.getD k 0 = ws[k]'(by omega) := by simp [List.getD, (by omega : k < ws.length)]
  rw [e, List.append_assoc, List.singleton_append]
theorem take_getD (l : List UInt8) (n j : Nat) (h : j < n) : (l.take n).getD j 0 = l.getD j 0 := by simp [List.getD, List.getElem?_take, h]
theorem wds_get (l : List UInt8) (k : Nat) (hk : k < 16) : (wds (l.take 64)).getD k 0 = word l (4 * k) := by
  have : (wds (l.take 64)).getD k 0 = word (l.take 64) (4 * k) := by simp [wds, List.getD, hk]
  rw [this]
  unfold word
  rw [take_getD _ _ _ (by omega), take_getD _ _ _ (by omega), take_getD _ _ _ (by omega), take_getD _ _ _ (by omega)]
theorem blk_all {w : World} {g n : Nat} {t : TypeId} {cs : Array Value} (h : Blk w g t cs) (hn : cs.size = n) : ldA w g 0 n = some cs := by
  have h1 := h.ldA 0 n (by omega)
  rw [h1, ← hn, Nat.zero_add, Array.extract_size]

set_option maxHeartbeats 1000000 in
theorem load_any (l : List UInt8) (n c : Nat) (A : Option Addr) (w : World) (h64 : 64 ≤ l.length) (hs : Sl w 5 1 (.slice A l.length c) l.length (bs l)) (hl : l.length ≤ maxLen) :
    Calls Try.prog 63 #[.slice A l.length c] w fun e w' => e = .returned (.agg (wsC (wds (l.take 64)))) ∧ Fr0 w w' := by
  obtain ⟨b, off, rfl, hb, hx⟩ := hs.at_ (k := 0) (by omega)
  unfold maxLen at hl
  have HS := Lib.hid hs
  have HX := Lib.hid hx
  clear hs hx
  obtain ⟨ws, hws⟩ : ∃ ws, ws = wds (l.take 64) := ⟨_, rfl⟩
  have hwl : ws.length = 16 := by rw [hws]; exact wds_length _
  have HWS := Lib.hid hws
  have HWL := Lib.hid hwl
  clear hws hwl
  go_enter Try.func63, Try.ntmps63
  go_wp2_with fail
  go_loopw [5] (fun iv wr => ∃ k : Nat, k ≤ 16 ∧ iv = .int .i64 k ∧ Blk wr (w.heap.size + 1) 124 (wsC (ws.take k ++ List.replicate (16 - k) 0)) ∧ Blk wr w.heap.size 124 (wsC (List.replicate 16 0)) ∧ Fr0 w wr) (fun i _ => 16 - (intOf i).toNat)
  case atStart =>
    refine ⟨0, by omega, rfl, ?_, ?_, ((Fr.refl _ _).alloc _).alloc _⟩
    · have h := Blk.new (w.alloc (.cells (wsC (List.replicate 16 0)) 124)) 124 (wsC (List.replicate 16 0))
      rw [show (w.alloc (.cells (wsC (List.replicate 16 0)) 124)).heap.size = w.heap.size + 1 by simp] at h
      exact h
    · exact (Blk.new w 124 (wsC (List.replicate 16 0))).alloc _
  case round =>
    obtain ⟨k, hk, rfl, hB, hR, hF⟩ := hrel
    by_cases hlt : k < 16
    · have hx := HX.out
      have hld : ∀ i, i < 64 → wr.cell? ⟨b, off + i, none⟩ = some (Proofs.Ytnholkjgdpapbaa.u8 (l.getD i 0)) := fun i hi => by
        rw [hF.cell (p := ⟨b, off + i, none⟩) hb (fun h => h)]
        refine hx i _ ?_
        have : i < l.length := by omega
        simp [bs, List.getD, this]
      have hl0 := hld (4 * k) (by omega)
      have hl1 := hld (4 * k + 1) (by omega)
      have hl2 := hld (4 * k + 2) (by omega)
      have hl3 := hld (4 * k + 3) (by omega)
      have hc := hB.cell k
      have hfz := hB.frozen k
      rw [fill_get ws HWL.out hlt] at hc
      have HB := Lib.hid hB
      have HR := Lib.hid hR
      have HF := Lib.hid hF
      have z0 : 0 ≤ 4 * (k : Int) := by omega
      have z1 : 0 ≤ 4 * (k : Int) + 1 := by omega
      have z2 : 0 ≤ 4 * (k : Int) + 2 := by omega
      have z3 : 0 ≤ 4 * (k : Int) + 3 := by omega
      have y0 : 4 * (k : Int) < (l.length : Int) := by omega
      have y1 : 4 * (k : Int) + 1 < (l.length : Int) := by omega
      have y2 : 4 * (k : Int) + 2 < (l.length : Int) := by omega
      have y3 : 4 * (k : Int) + 3 < (l.length : Int) := by omega
      have m0 : IntKind.i64.wrap (4 * (k : Int)) = 4 * (k : Int) := IntWalk.i64_in _ (by omega)
      have m1 : IntKind.i64.wrap (4 * (k : Int) + 1) = 4 * (k : Int) + 1 := IntWalk.i64_in _ (by omega)
      have m2 : IntKind.i64.wrap (4 * (k : Int) + 2) = 4 * (k : Int) + 2 := IntWalk.i64_in _ (by omega)
      have m3 : IntKind.i64.wrap (4 * (k : Int) + 3) = 4 * (k : Int) + 3 := IntWalk.i64_in _ (by omega)
      have n0 : (4 * (k : Int)).toNat = 4 * k := by omega
      have n1 : (4 * (k : Int) + 1).toNat = 4 * k + 1 := by omega
      have n2 : (4 * (k : Int) + 2).toNat = 4 * k + 2 := by omega
      have n3 : (4 * (k : Int) + 3).toNat = 4 * k + 3 := by omega
      clear hx hld hB hR hF
      go_wp2_with fail
      go_still_tail 35, (by kernel_rfl)
      change wpList _ _ _ _ _ wr.drew
      go_wp2_with fail
      clear m0 m1 m2 m3 n0 n1 n2 n3 z0 z1 z2 z3 y0 y1 y2 y3
      go_roundw
      case rel =>
        refine ⟨k + 1, by omega, by go_num, ?_, ?_, ?_⟩
        · have h := (HB.out.set_ k (Proofs.Ytnholkjgdpapbaa.u32 (ws.getD k 0))).drew
          rw [fill_step ws HWL.out hlt] at h
          have hwd : ws.getD k 0 = word l (4 * k) := by rw [HWS.out]; exact wds_get l k hlt
          rw [hwd] at h
          simpa [word, List.getD] using h
        · exact HR.out.drew.far (by dsimp only; omega) _
        · exact (HF.out.drew).setCell (fun h => by dsimp only at h; omega) _
      case measure => simp [intOf]; omega
    · have hk16 : k = 16 := by omega
      subst hk16
      have hws : ws.take 16 ++ List.replicate (16 - 16) 0 = ws := by rw [List.take_of_length_le (by have := HWL.out; omega)]; simp
      rw [hws] at hB
      have hla := blk_all hB (n := 16) (by have := HWL.out; simp [this])
      have hok := hR.okA 0 16 (by simp)
      have hsz : (wsC ws).size = 16 := by have := HWL.out; simp [this]
      have h1 : (wsC ws).all (·.oneCell') = true := by simp [wsC]
      have HWS2 := Lib.hid hws
      have HR := Lib.hid hR
      have HF := Lib.hid hF
      clear hB hR hF hws
      have hst : ∀ (w : World) (b o : Nat), okA w b o 16 = true → (st 124 (.pointer (some ⟨b, o, none⟩)) (.agg (wsC ws))).run Try.prog w = .ok () (putW w b o (wsC ws)) := fun w b o h => run_st w _ (by rw [info_bulletin_sha256_block, hsz]) h1 b o (by rw [hsz]; exact h)
      clear h1
      generalize hG : wsC ws = G at *
      go_wp2_with fail
      refine bodyPost_agg (n := 16) (cs := G) rfl Try.underlying124 rfl info_bulletin_sha256_block (by rfl) ?_ rfl ?_
      · exact ldA_put HR.out _ hsz rfl
      refine ⟨?_, ?_⟩
      · rw [← hG, HWS.out]
      · exact HF.out.put (fun h => by omega) _ _
end Go.Proofs.Ytnholkjgdpapbaa
