/- SHA-256: the reference's Sum. No condition beyond the lengths that are named. -/
import Derived.Test.YtnholkjgdpapbaaShaG
namespace Go.Proofs.Ytnholkjgdpapbaa
set_option linter.unusedVariables false
set_option linter.unusedSimpArgs false
set_option maxRecDepth 10000
open Go.RowKit
attribute [local go_sem ↓] Go.wp_at_zero Go.wp_at_succ

structure RfSt (w : World) (gk : Nat) (cs : Array Value) (P : List UInt8) (AP : Option Addr) (N cP : Nat) (wr : World) : Prop where
  bo : Blk wr w.heap.size 98 (bs (List.replicate 32 0)).toArray
  bh : Blk wr (w.heap.size + 1) 105 cs
  bk : Blk wr gk 106 kC
  sp : Sl wr 5 1 (.slice AP N cP) P.length (bs P)
  fr : Fr0 w wr
  lo : w.heap.size + 1 < gk
theorem RfSt.fr0 {w : World} {gk : Nat} {s : Array Value} {P : List UInt8} {AP : Option Addr} {N cP : Nat} {wr wx : World} (h : RfSt w gk s P AP N cP wr) (hf : Fr0 wr wx) : RfSt w gk s P AP N cP wx :=
  ⟨h.bo.fr hf (fun h => h), h.bh.fr hf (fun h => h), h.bk.fr hf (fun h => h), h.sp.fr0 hf, h.fr.trans hf, h.lo⟩
theorem RfSt.far {w : World} {gk g : Nat} {s : Array Value} {P : List UInt8} {AP : Option Addr} {N cP : Nat} {t : TypeId} {cs : Array Value} {wr wx : World} (h : RfSt w gk s P AP N cP wr) (hf : Fr1 g wr wx) (hg : gk < g) (hb : Blk wr g t cs) (ht : t ≠ 5) : RfSt w gk s P AP N cP wx := by
  have hl := h.lo
  exact ⟨h.bo.fr hf (by omega), h.bh.fr hf (by omega), h.bk.fr hf (by omega), h.sp.fr1 hf hb ht, h.fr.then_ (S := fun _ => False) hf (fun i hi e => by omega), h.lo⟩

theorem RfSt.seth {w : World} {gk : Nat} {s s' : Array Value} {P : List UInt8} {AP : Option Addr} {N cP i : Nat} {u : Value} {wr : World} (h : RfSt w gk s P AP N cP wr) (hs : s.setIfInBounds i u = s') : RfSt w gk s' P AP N cP (wr.setCell ⟨w.heap.size + 1, i, none⟩ u) := by
  have hl := h.lo
  have hF := (Fr.refl (fun j => j = w.heap.size + 1) wr).setCell (p := ⟨w.heap.size + 1, i, none⟩) (fun _ => rfl) u
  have hb := h.bh.set_ i u
  rw [hs] at hb
  exact ⟨h.bo.fr hF (by omega), hb, h.bk.fr hF (by omega), h.sp.fr1 hF h.bh (by decide), h.fr.then_ (S := fun _ => False) hF (fun i hi e => by omega), hl⟩
theorem rf_put {w : World} {gk gw gv : Nat} {s c d : Array Value} {P : List UInt8} {AP : Option Addr} {N cP : Nat} {wr : World} (h : RfSt w gk s P AP N cP wr) (hw : Blk wr gw 106 c) (hv : Blk wr gv 105 d) (h1 : gk < gv) (h2 : gw ≠ gv) (x : Array Value) (hx : d.size = x.size) (n : Nat) :
    RfSt w gk s P AP N cP (putW (wr.drewN n) gv 0 x) ∧ Blk (putW (wr.drewN n) gv 0 x) gw 106 c ∧ Blk (putW (wr.drewN n) gv 0 x) gv 105 x := by
  have hF : Fr1 gv (wr.drewN n) (putW (wr.drewN n) gv 0 x) := (Fr.refl (fun i => i = gv) (wr.drewN n)).put (b := gv) (fun _ => rfl) 0 x
  exact ⟨(h.fr0 ((Fr.refl _ _).drewN n)).far hF h1 (hv.drewN n) (by decide), (hw.drewN n).fr hF h2, (hv.drewN n).putAll x hx⟩
theorem rf_new {w : World} {gk gv : Nat} {s d : Array Value} {P : List UInt8} {AP : Option Addr} {N cP : Nat} {wr : World} (h : RfSt w gk s P AP N cP wr) (hv : Blk wr gv 105 d) (h1 : gk < gv) (i : Nat) (u : Value) (s' : Array Value) (hs : s.setIfInBounds i u = s') :
    RfSt w gk s' P AP N cP (wr.drew.setCell ⟨w.heap.size + 1, i, none⟩ u) ∧ Blk (wr.drew.setCell ⟨w.heap.size + 1, i, none⟩ u) gv 105 d := by
  have hl := h.lo
  exact ⟨(h.fr0 ((Fr.refl _ _).drew)).seth hs, hv.drew.far (by dsimp only; omega) _⟩
theorem kC_get (k : Nat) (hk : k < 64) : kC[k]? = some (u32 (kTab.getD k 0)) := by
  have : k < kTab.length := hk
  simp [kC, List.getD, this]
theorem rnd_eq (s : St) (k x : UInt32) : rnd s k x = ⟨rt s k x + ru s, s.a, s.b, s.c, s.d + rt s k x, s.e, s.f, s.g⟩ := rfl
theorem run_bd_h0 (w : World) : (bd 105 #[(0, .int .u32 1779033703), (1, .int .u32 3144134277), (2, .int .u32 1013904242), (3, .int .u32 2773480762), (4, .int .u32 1359893119), (5, .int .u32 2600822924), (6, .int .u32 528734635), (7, .int .u32 1541459225)]).run Try.prog w = .ok (stV st0) w := by kernel_rfl
theorem mix_step (s r : St) (i : Nat) (hi : i < 8) : (wsC ((stW (plusS s r)).take i ++ (stW s).drop i)).setIfInBounds i (u32 ((stW s).getD i 0 + (stW r).getD i 0)) = wsC ((stW (plusS s r)).take (i + 1) ++ (stW s).drop (i + 1)) := by
  rw [wsC_set]
  rcases (show i = 0 ∨ i = 1 ∨ i = 2 ∨ i = 3 ∨ i = 4 ∨ i = 5 ∨ i = 6 ∨ i = 7 by omega) with rfl | rfl | rfl | rfl | rfl | rfl | rfl | rfl <;> rfl
theorem mix_get (s r : St) (i : Nat) (hi : i < 8) : (wsC ((stW (plusS s r)).take i ++ (stW s).drop i))[i]? = some (u32 ((stW s).getD i 0)) := by
  rcases (show i = 0 ∨ i = 1 ∨ i = 2 ∨ i = 3 ∨ i = 4 ∨ i = 5 ∨ i = 6 ∨ i = 7 by omega) with rfl | rfl | rfl | rfl | rfl | rfl | rfl | rfl <;> rfl
theorem stC_get (r : St) (i : Nat) (hi : i < 8) : (stC r)[i]? = some (u32 ((stW r).getD i 0)) := by
  rcases (show i = 0 ∨ i = 1 ∨ i = 2 ∨ i = 3 ∨ i = 4 ∨ i = 5 ∨ i = 6 ∨ i = 7 by omega) with rfl | rfl | rfl | rfl | rfl | rfl | rfl | rfl <;> rfl
theorem out_byte (s : St) (i : Nat) (hi : i < 32) : (outS s).getD i 0 = ((stW s).getD (i / 4) 0 >>> UInt32.ofNat (24 - 8 * (i % 4))).toUInt8 := by
  obtain ⟨e0, e1, e2, e3⟩ := outS_get s (i / 4) (by omega)
  rcases (show i % 4 = 0 ∨ i % 4 = 1 ∨ i % 4 = 2 ∨ i % 4 = 3 by omega) with h | h | h | h
  · have : i = 4 * (i / 4) := by omega
    rw [h]; conv => lhs; rw [this]
    exact e0
  · have : i = 4 * (i / 4) + 1 := by omega
    rw [h]; conv => lhs; rw [this]
    exact e1
  · have : i = 4 * (i / 4) + 2 := by omega
    rw [h]; conv => lhs; rw [this]
    exact e2
  · have : i = 4 * (i / 4) + 3 := by omega
    rw [h]; conv => lhs; rw [this]
    rw [e3]
    show _ = (_ >>> 0).toUInt8
    simp

set_option maxHeartbeats 8000000 in
set_option maxRecDepth 20000 in
theorem rsum_any (l : List UInt8) (B : Nat) (v : Value) (w : World) (hs : Rd w B v l) (hl : l.length ≤ 1000000000) :
    Calls Try.prog 48 #[v] w fun e w' => e = .returned (.agg (bs (sumB l)).toArray) ∧ Fr0 w w' := by
  obtain ⟨Av, cv, rfl, hv1, hv2⟩ := hs.form
  have hbd := run_bd_h0
  have HS := Lib.hid hs
  clear hs
  have hB0 := Blk.new w 98 (bs (List.replicate 32 0)).toArray
  have hB1 := Blk.new (w.alloc (.cells (bs (List.replicate 32 0)).toArray 98)) 105 (stC st0)
  rw [show (w.alloc (.cells (bs (List.replicate 32 0)).toArray 98)).heap.size = w.heap.size + 1 by simp] at hB1
  have hB0' := hB0.alloc (.cells (stC st0) 105)
  have HB0 := Lib.hid hB0'
  have HB1 := Lib.hid hB1
  clear hB0 hB1 hB0'
  go_enter Try.func48, Try.ntmps48
  go_wp2_with fail
  refine (rconst_any _).mono ?_
  rintro e w2 ⟨rfl, hf⟩
  clear hbd
  have hst : ∀ (w : World) (b o : Nat), okA w b o 64 = true → (st 106 (.pointer (some ⟨b, o, none⟩)) (.agg kC)).run Try.prog w = .ok () (putW w b o kC) := fun w b o h => run_st w kC (by rw [info__64_uint32]; rfl) (by kernel_rfl) b o h
  have hks : kC.size = 64 := rfl
  have HF2 := Lib.hid (((((Fr.refl (fun _ => False) w).alloc (.cells (bs (List.replicate 32 0)).toArray 98)).alloc (.cells (stC st0) 105)).trans hf).alloc (.cells kC 106))
  have HB02 := Lib.hid ((HB0.out.fr hf (fun h => h)).alloc (.cells kC 106))
  have HB12 := Lib.hid ((HB1.out.fr hf (fun h => h)).alloc (.cells kC 106))
  have HK2 := Lib.hid (Blk.new w2 106 kC)
  have HZ2 := Lib.hid hf.size
  clear hf
  go_wp2_with fail
  refine (padded_any l B _ _ (HS.out.fr0 HF2.out) hl).mono ?_
  rintro e w3 ⟨AP, cP, rfl, hsp, hf⟩
  obtain ⟨P, hP⟩ : ∃ P, P = padB l := ⟨_, rfl⟩
  rw [← hP] at hsp ⊢
  have hPl : P.length % 64 = 0 := by rw [hP]; exact pad_length l
  have hPm : P.length ≤ 1000000200 := by rw [hP]; simp only [padB, List.length_append, tail8_length, zs]; omega
  obtain ⟨N, hN⟩ : ∃ N, N = P.length := ⟨_, rfl⟩
  rw [← hN] at hsp ⊢
  have HR := Lib.hid (show RfSt w w2.heap.size (stC (absorb 0 st0 P)) P AP N cP w3 from ⟨HB02.out.fr hf (fun h => h), HB12.out.fr hf (fun h => h), HK2.out.fr hf (fun h => h), by rw [← hN]; exact hsp, HF2.out.trans hf, by have := HZ2.out; simp at this; omega⟩)
  have HN := Lib.hid hN
  have HP := Lib.hid hP
  have HPL := Lib.hid hPl
  have HPM := Lib.hid hPm
  clear hst hks hsp hf hN hP hPl hPm
  go_wp2_with fail
  go_loopw [6] (fun iv wr => ∃ k : Nat, k * 64 ≤ N ∧ iv = .int .i64 ((k * 64 : Nat) : Int) ∧ RfSt w w2.heap.size (stC (absorb k st0 P)) P AP N cP wr) (fun iv _ => (N - (intOf iv).toNat))
  case atStart => exact ⟨0, by omega, rfl, HR.out⟩
  case round =>
    obtain ⟨k, hk, rfl, hR⟩ := hrel
    have hbn := (show Sl wr 5 1 (.slice AP N cP) N (bs P) from by have := hR.sp; rwa [← HN.out] at this).bounds
    unfold maxLen at hbn
    obtain ⟨k64, hk64⟩ : ∃ a, a = k * 64 := ⟨_, rfl⟩
    rw [← hk64] at hk ⊢
    have hN := HN.out
    have hPl := HPL.out
    have hPm := HPM.out
    have hNm : N ≤ 1000000200 := by omega
    by_cases hlt : k64 < N
    · have h64 : k64 + 64 ≤ N := by omega
      clear hN hPl hPm
      have hR' := hR
      have HR := Lib.hid hR
      have hi1 : (k64 : Int) + 64 ≤ (N : Int) := by omega
      have hi2 : (k64 : Int) + 64 ≤ (cP : Int) := by omega
      have hi3 : k64 + 64 ≤ cP := by omega
      obtain ⟨l64, hl64⟩ : ∃ a, a = (P.drop (k * 64)).take 64 := ⟨_, rfl⟩
      have hlen64 : l64.length = 64 := by rw [hl64, List.length_take, List.length_drop, ← HN.out]; omega
      have hcut : Sl wr 5 1 (.slice (Option.map (fun x => x.add (k * 64)) AP) 64 (cP - k * 64)) l64.length (bs l64) := by
        have h1 := hR.sp
        rw [← HN.out] at h1
        have h2 := h1.cutBack (k := k * 64) (by omega)
        rw [if_neg (by omega), Nat.mul_one, bs_drop] at h2
        have h3 := h2.cutFront (k := 64) (by omega)
        rw [Nat.mul_one] at h3
        rw [hlen64, hl64]
        simpa [bs, List.map_take] using h3
      have HCUT := Lib.hid hcut
      have HL64 := Lib.hid hlen64
      have HLE := Lib.hid hl64
      clear hR hR' hcut hlen64 hl64
      go_wp2_with fail
      refine (sched_any l64 64 _ _ wr HL64.out HCUT.out).mono ?_
      rintro e w4 ⟨rfl, hf⟩
      obtain ⟨W, hW⟩ : ∃ W, W = sched (wds l64) := ⟨_, rfl⟩
      rw [← hW]
      have hWl : W.length = 64 := by rw [hW]; exact sched_length _ (wds_length _)
      have hst := arr64_st W hWl
      have hks : (wsC W).size = 64 := by simp [hWl]
      obtain ⟨s, hs⟩ : ∃ s, s = absorb k st0 P := ⟨_, rfl⟩
      rw [← hs] at HR
      have HR4 := Lib.hid (HR.out.fr0 hf)
      have hl53 := blk_all (HR4.out.bh.alloc (.cells (wsC W) 106)) (n := 8) rfl
      have HW := Lib.hid hW
      have HWL := Lib.hid hWl
      have HSS := Lib.hid hs
      have HGK := Lib.hid (show w2.heap.size < w4.heap.size from HR4.out.bk.lt)
      clear hf hW hWl hs
      obtain ⟨G, hG⟩ : ∃ G, G = wsC W := ⟨_, rfl⟩
      rw [← hG] at hst hks hl53 ⊢
      have HG := Lib.hid hG
      clear hG
      go_wp2_with fail
      clear hst hks hl53
      go_loopw [9] (fun iv wx => ∃ t : Nat, t ≤ 64 ∧ iv = .int .i64 t ∧ RfSt w w2.heap.size (stC s) P AP N cP wx ∧ Blk wx w4.heap.size 106 (wsC W) ∧ Blk wx (w4.heap.size + 1) 105 (stC (rounds W s t))) (fun iv _ => 64 - (intOf iv).toNat)
      case atStart =>
        refine ⟨0, by omega, rfl, HR4.out.fr0 (((Fr.refl _ _).alloc _).alloc _), ?_, ?_⟩
        · rw [← HG.out]; exact (Blk.new w4 _ _).alloc _
        · have h := Blk.new (w4.alloc (.cells G 106)) 105 (stC s)
          rw [show (w4.alloc (.cells G 106)).heap.size = w4.heap.size + 1 by simp] at h
          exact h
      case round =>
        obtain ⟨t, ht, rfl, hR, hBW, hBV⟩ := hrel
        by_cases hlt : t < 64
        · obtain ⟨r, hr⟩ : ∃ r, r = rounds W s t := ⟨_, rfl⟩
          rw [← hr] at hBV
          have c0 := (hBV.cell 0).trans (stC_get r 0 (by omega))
          have c1 := (hBV.cell 1).trans (stC_get r 1 (by omega))
          have c2 := (hBV.cell 2).trans (stC_get r 2 (by omega))
          have c3 := (hBV.cell 3).trans (stC_get r 3 (by omega))
          have c4 := (hBV.cell 4).trans (stC_get r 4 (by omega))
          have c5 := (hBV.cell 5).trans (stC_get r 5 (by omega))
          have c6 := (hBV.cell 6).trans (stC_get r 6 (by omega))
          have c7 := (hBV.cell 7).trans (stC_get r 7 (by omega))
          have ck := (hR.bk.cell t).trans (kC_get t hlt)
          have cw := (hBW.cell t).trans (wsC_get W t (by rw [HWL.out]; exact hlt))
          simp [stW] at c0 c1 c2 c3 c4 c5 c6 c7
          have hokv := hBV.okA 0 8 (by simp)
          have HR5 := Lib.hid hR
          have HBW := Lib.hid hBW
          have HBV := Lib.hid hBV
          have HRR := Lib.hid hr
          have z0 : (t : Int) < 64 := by omega
          clear hR hBW hBV hr
          go_wp2_with fail
          go_quiet ((go_at_call 55; exact q1d (rotate_int _ _ _ (by decide))))
          go_wp2_with fail
          go_quiet ((go_at_call 55; exact q2d (rotate_int _ _ _ (by decide))))
          go_wp2_with fail
          clear c0 c1 c2 c3 c4 c5 c6 c7 ck cw hokv
          go_roundw
          case rel =>
            have hput := fun n => rf_put HR5.out HBW.out HBV.out (by have := HGK.out; omega) (by omega) (stC (rnd r (kTab.getD t 0) (W.getD t 0))) rfl n
            have hrn : rounds W s (t + 1) = rnd r (kTab.getD t 0) (W.getD t 0) := by rw [rounds, ← HRR.out]
            refine ⟨t + 1, by omega, by go_num, (hput _).1, (hput _).2.1, ?_⟩
            rw [hrn]
            exact (hput _).2.2
          case measure => simp [intOf]; omega
        · have ht64 : t = 64 := by omega
          subst ht64
          obtain ⟨r, hr⟩ : ∃ r, r = rounds W s 64 := ⟨_, rfl⟩
          rw [← hr] at hBV
          have HR5 := Lib.hid hR
          have HBV := Lib.hid hBV
          have HRR := Lib.hid hr
          clear hR hBW hBV hr
          go_wp2_with fail
          go_loopw [12] (fun iv wy => ∃ i : Nat, i ≤ 8 ∧ iv = .int .i64 i ∧ RfSt w w2.heap.size (wsC ((stW (plusS s r)).take i ++ (stW s).drop i)) P AP N cP wy ∧ Blk wy (w4.heap.size + 1) 105 (stC r)) (fun iv _ => 8 - (intOf iv).toNat)
          case atStart => exact ⟨0, by omega, rfl, HR5.out, HBV.out⟩
          case round =>
            obtain ⟨i, hi, rfl, hR, hBV⟩ := hrel
            by_cases hlt8 : i < 8
            · have d0 := (hR.bh.cell i).trans (mix_get s r i hlt8)
              have d1 := (hBV.cell i).trans (stC_get r i hlt8)
              have d2 := hR.bh.frozen i
              have HRi := Lib.hid hR
              have HBi := Lib.hid hBV
              have z0 : (i : Int) < 8 := by omega
              clear hR hBV
              go_wp2_with fail
              go_still_tail 9, (by kernel_rfl)
              change wpList _ _ _ _ _ wr.drew
              go_wp2_with fail
              clear d0 d1 d2
              go_roundw
              case rel =>
                obtain ⟨h1, h2⟩ := rf_new HRi.out HBi.out (by have := HGK.out; omega) i _ _ (mix_step s r i hlt8)
                first
                | exact ⟨i + 1, by omega, by go_num, h1, h2⟩
                | ((repeat apply Exists.intro); exact ⟨⟨i + 1, by omega, by go_num, h1, h2⟩, rfl⟩)
              case measure => simp [intOf]; omega
            · have hi8 : i = 8 := by omega
              subst hi8
              have HRi := Lib.hid hR
              clear hR hBV
              go_wp2_with fail
              go_roundw
              case rel =>
                have hle : k * 64 ≤ P.length := by have := HN.out; omega
                have he : stC (absorb (k + 1) st0 P) = wsC ((stW (plusS s r)).take 8 ++ (stW s).drop 8) := by
                  rw [absorb_succ k st0 P hle, ← HLE.out, ← HSS.out]
                  unfold proc
                  rw [← HW.out, ← HRR.out, plusS_comm r s]
                  rfl
                refine ⟨k + 1, by omega, by congr 1; omega, ?_⟩
                rw [he]
                exact HRi.out
              case measure => simp [intOf]; omega
    · rename World => wf
      have hkN : k * 64 = N := by omega
      have hkd : k = P.length / 64 := by omega
      obtain ⟨s, hs⟩ : ∃ s, s = absorb k st0 P := ⟨_, rfl⟩
      rw [← hs] at hR
      have ho := outS_length s
      obtain ⟨o, hoo⟩ : ∃ o, o = outS s := ⟨_, rfl⟩
      have hog := fun i h => out_byte s i h
      rw [← hoo] at ho hog
      have HOG := Lib.hid hog
      have HOO := Lib.hid hoo
      have HOL := Lib.hid ho
      have HFE := Lib.hid (show Ending.returned (.agg (bs o).toArray) = .returned (.agg (bs (sumB l)).toArray) from by
        rw [hoo, hs, hkd, HP.out]; rfl)
      have HRN := Lib.hid hR
      clear hog hoo ho hs hkN hkd hN hPl hPm hR
      go_wp2_with fail
      go_loopw [14] (fun iv wx => ∃ i : Nat, i ≤ 32 ∧ iv = .int .i64 i ∧ RfSt w w2.heap.size (stC s) P AP N cP wx ∧ Blk wx wf.heap.size 98 (dfill o i)) (fun iv _ => 32 - (intOf iv).toNat)
      case atStart => exact ⟨0, by omega, rfl, HRN.out.fr0 ((Fr.refl _ _).alloc _), Blk.new wf 98 (dfill o 0)⟩
      case round =>
        obtain ⟨i, hi, rfl, hR, hD⟩ := hrel
        by_cases hlt32 : i < 32
        · obtain ⟨y, hy⟩ := dfill_get o i i HOL.out (by omega) hlt32
          have d0 := (hD.cell i).trans hy
          have d1 := hD.frozen i
          obtain ⟨q, hq⟩ : ∃ q, q = i / 4 := ⟨_, rfl⟩
          obtain ⟨m, hm⟩ : ∃ m, m = i % 4 := ⟨_, rfl⟩
          obtain ⟨e, he⟩ : ∃ e, e = 24 - 8 * m := ⟨_, rfl⟩
          have dq := (hR.bh.cell q).trans (stC_get s q (by omega))
          have hob := HOG.out i hlt32
          rw [← hq, ← hm, ← he] at hob
          have HOB := Lib.hid hob
          have HRi := Lib.hid hR
          have HDi := Lib.hid hD
          have z0 : (i : Int) < 32 := by omega
          have z1 : (q : Int) < 8 := by omega
          have z2 : (0 : Int) ≤ (e : Int) := by omega
          have z3 : (e : Int) < 32 := by omega
          have q1 : (i : Int) / 4 = (q : Int) := by omega
          have q2 : (i : Int).tdiv 4 = (q : Int) := by rw [Int.tdiv_eq_ediv_of_nonneg (by omega)]; exact q1
          have m1 : (i : Int) % 4 = (m : Int) := by omega
          have m2 : (i : Int).tmod 4 = (m : Int) := by rw [Int.tmod_eq_emod_of_nonneg (by omega)]; exact m1
          have e1 : IntKind.i64.wrap (8 * (m : Int)) = 8 * (m : Int) := IntWalk.i64_in _ (by omega)
          have e2 : IntKind.i64.wrap (24 - 8 * (m : Int)) = (e : Int) := by rw [IntWalk.i64_in _ (by omega)]; omega
          have e3 : 24 - 8 * (m : Int) = (e : Int) := by omega
          have z4 : (m : Int) < 4 := by omega
          clear hob hR hD hq hm he hy
          go_wp2_with fail
          go_roundw
          case rel =>
            have hF := (Fr.refl (fun j => j = wf.heap.size) wr).setCell (p := ⟨wf.heap.size, i, none⟩) (fun _ => rfl) (Proofs.Ytnholkjgdpapbaa.u8 (o.getD i 0))
            have hb := HDi.out.set_ i (Proofs.Ytnholkjgdpapbaa.u8 (o.getD i 0))
            rw [dfill_step o i HOL.out hlt32] at hb
            have hr := HRi.out.far hF HRN.out.bk.lt HDi.out (by decide)
            rw [HOB.out] at hb hr
            exact ⟨i + 1, by omega, by go_num, hr, hb⟩
          case measure => simp [intOf]; omega
        · have hi32 : i = 32 := by omega
          subst hi32
          have hdo : dfill o 32 = (bs o).toArray := by
            unfold dfill
            rw [List.take_of_length_le (by have := HOL.out; omega)]; simp
          rw [hdo] at hD
          have hla := by_load hD HOL.out
          have hok := hR.bo.okA 0 32 (by simp)
          have hst : ∀ (w : World) (b p : Nat), okA w b p 32 = true → (st 98 (.pointer (some ⟨b, p, none⟩)) (.agg (bs o).toArray)).run Try.prog w = .ok () (putW w b p (bs o).toArray) := fun w b p h => run_st w _ (by rw [info__32_uint8]; simp [HOL.out]) (by have := bs_one' o; simpa using this) b p (by simpa [HOL.out] using h)
          have HRi := Lib.hid hR
          clear hD hR hdo
          go_wp2_with fail
          refine bodyPost_agg (n := 32) (cs := (bs o).toArray) rfl Try.underlying98 rfl info__32_uint8 (by rfl) ?_ rfl ?_
          · exact ldA_put HRi.out.bo _ (by simp [HOL.out]) (by simp)
          · exact ⟨HFE.out, HRi.out.fr.put (S := fun _ => False) (fun h => by omega) _ _⟩
end Go.Proofs.Ytnholkjgdpapbaa
