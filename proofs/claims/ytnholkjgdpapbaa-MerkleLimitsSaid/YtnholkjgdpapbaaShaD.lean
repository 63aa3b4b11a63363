/- SHA-256: the program's Hash: New, take, Write, Len, Clone. No condition beyond the lengths that are named. -/
import Derived.Test.YtnholkjgdpapbaaShaC
import Derived.Test.YtnholkjgdpapbaaBytes
namespace Go.Proofs.Ytnholkjgdpapbaa
set_option linter.unusedVariables false
set_option linter.unusedSimpArgs false
set_option maxRecDepth 10000
open Go.RowKit
attribute [local go_sem ↓] Go.wp_at_zero Go.wp_at_succ

/-- A Hash as cells. -/
abbrev hC (s : St) (v : Value) (n : Int) : Array Value := #[u32 s.a, u32 s.b, u32 s.c, u32 s.d, u32 s.e, u32 s.f, u32 s.g, u32 s.h, v, .int .i64 n, .bool true]
/-- Block g holds a Hash to which the bytes l have been written; its count says n. -/
def HashN (w : World) (g : Nat) (l : List UInt8) (n : Int) : Prop := ∃ v, Blk w g 120 (hC (stAt l) v n) ∧ Sl w 5 1 v (restAt l).length (bs (restAt l))
abbrev HashAt (w : World) (g : Nat) (l : List UInt8) : Prop := HashN w g l l.length
abbrev hptr (g : Nat) : Value := .pointer (some ⟨g, 0, none⟩)
theorem HashN.lt {w : World} {g : Nat} {l : List UInt8} {n : Int} (h : HashN w g l n) : g < w.heap.size := by obtain ⟨v, hb, _⟩ := h; exact hb.lt
theorem HashN.fr {w w' : World} {g : Nat} {l : List UInt8} {n : Int} {S : Nat → Prop} (h : HashN w g l n) (hf : Fr S w w') (hg : ¬ S g) (hS : ∀ (k : Nat) (cur : Array Value) (fz : Nat × Nat), S k → w.heap[k]? ≠ some (Obj.cells cur 5 fz)) : HashN w' g l n := by
  obtain ⟨v, hb, hs⟩ := h
  exact ⟨v, hb.fr hf hg, hs.fr hf hS⟩
theorem HashN.fr0 {w w' : World} {g : Nat} {l : List UInt8} {n : Int} (h : HashN w g l n) (hf : Fr0 w w') : HashN w' g l n := h.fr hf (fun h => h) (fun _ _ _ h => h.elim)
theorem HashN.fr1 {w w' : World} {g g' : Nat} {l l' : List UInt8} {n n' : Int} (h : HashN w g l n) (h' : HashN w g' l' n') (hf : Fr1 g' w w') (hne : g ≠ g') : HashN w' g l n := by
  obtain ⟨v', hb', _⟩ := h'
  refine h.fr hf hne ?_
  rintro k cur fz rfl hk
  unfold Blk at hb'; rw [hb'] at hk; injection hk with hk; injection hk with _ hk; exact absurd hk (by decide)
/-- .. and the bytes that are left lie in no block below lo. -/
def HashF (w : World) (g : Nat) (l : List UInt8) (n : Int) (lo : Nat) : Prop := ∃ A c, Blk w g 120 (hC (stAt l) (.slice A (restAt l).length c) n) ∧ Sl w 5 1 (.slice A (restAt l).length c) (restAt l).length (bs (restAt l)) ∧ ∀ a, A = some a → lo ≤ a.block
theorem HashF.n {w : World} {g : Nat} {l : List UInt8} {n : Int} {lo : Nat} (h : HashF w g l n lo) : HashN w g l n := by obtain ⟨A, c, hb, hs, _⟩ := h; exact ⟨_, hb, hs⟩
theorem HashF.lt {w : World} {g : Nat} {l : List UInt8} {n : Int} {lo : Nat} (h : HashF w g l n lo) : g < w.heap.size := h.n.lt
theorem HashF.mono {w : World} {g : Nat} {l : List UInt8} {n : Int} {lo lo' : Nat} (h : HashF w g l n lo) (hl : lo' ≤ lo) : HashF w g l n lo' := by
  obtain ⟨A, c, hb, hs, ha⟩ := h
  exact ⟨A, c, hb, hs, fun a h => Nat.le_trans hl (ha a h)⟩
theorem HashF.fr {w w' : World} {g : Nat} {l : List UInt8} {n : Int} {lo : Nat} {S : Nat → Prop} (h : HashF w g l n lo) (hf : Fr S w w') (hg : ¬ S g) (hS : ∀ k, lo ≤ k → ¬ S k) : HashF w' g l n lo := by
  obtain ⟨A, c, hb, ⟨hl, A', c', hv, h1, h2, hr⟩, ha⟩ := h
  injection hv with hA _ hc
  subst hA; subst hc
  refine ⟨A, c, hb.fr hf hg, ⟨hl, A, c, rfl, h1, h2, fun hn => ?_⟩, ha⟩
  obtain ⟨b, off, cur, fz, hA, hh, hx⟩ := hr hn
  exact ⟨b, off, cur, fz, hA, (hf.block b (heap_lt hh) (hS b (ha _ hA))).trans hh, hx⟩
theorem HashF.fr0 {w w' : World} {g : Nat} {l : List UInt8} {n : Int} {lo : Nat} (h : HashF w g l n lo) (hf : Fr0 w w') : HashF w' g l n lo := h.fr hf (fun h => h) (fun _ _ h => h)
/-- Another block of another element type may have turned. -/
theorem HashF.fr1 {w w' : World} {g g' : Nat} {l l' : List UInt8} {n n' : Int} {lo : Nat} (h : HashF w g l n lo) (h' : HashN w g' l' n') (hf : Fr1 g' w w') (hne : g ≠ g') : HashF w' g l n lo := by
  obtain ⟨A, c, hb, hs, ha⟩ := h
  obtain ⟨v', hb', _⟩ := h'
  exact ⟨A, c, hb.fr hf hne, hs.fr1 hf hb' (by decide), ha⟩
@[simp] theorem stAt_nil : stAt [] = st0 := rfl
@[simp] theorem restAt_nil : restAt [] = [] := rfl

@[go_sem] theorem run_bd_hash (w : World) (s : St) : (bd 120 #[(0, stV s), (3, .bool true)]).run Try.prog w = .ok (.agg (hC s (.slice none 0 0) 0)) w := by kernel_rfl
@[go_sem] theorem run_st_hash (w : World) (b o : Nat) (s : St) (A : Option Addr) (r c : Nat) (n : Int) (h : okA w b o 11 = true) :
    (st 120 (.pointer (some ⟨b, o, none⟩)) (.agg (hC s (.slice A r c) n))).run Try.prog w = .ok () (putW w b o (hC s (.slice A r c) n)) :=
  run_st w _ (by rw [info_bulletin_sha256_Hash]; rfl) (by simp [Value.oneCell', u32]) b o h
theorem hnew_any (w : World) : Calls Try.prog 56 #[] w fun e w' => ∃ g, e = .returned (hptr g) ∧ w.heap.size ≤ g ∧ (∀ lo, HashF w' g [] 0 lo) ∧ Fr0 w w' := by
  go_enter Try.func56, Try.ntmps56
  go_wp2_with fail
  refine (init_any _).mono ?_
  rintro e w1 ⟨rfl, hf⟩
  go_wp2_with fail
  go_ret
  exact ⟨w1.heap.size, rfl, hf.size, fun lo => ⟨_, _, Blk.new _ _ _, Sl.nil _ _ _, fun a h => by cases h⟩, hf.alloc _⟩

theorem absorb_succ (k : Nat) (s : St) (L : List UInt8) (h : k * 64 ≤ L.length) : absorb (k + 1) s L = proc (absorb k s L) (wds ((L.drop (k * 64)).take 64)) := by
  rw [absorb_append k 1 s L h]; rfl
theorem putAt_hC (s x : St) (v : Value) (n : Int) : putAt (hC s v n) 0 (stC x) = hC x v n := rfl
set_option maxHeartbeats 2000000 in
theorem take_any (g B : Nat) (l b : List UInt8) (n : Int) (vb : Value) (w : World) (h : HashN w g l n) (hb : Rd w B vb b) (hl : b.length ≤ 1000000000) :
    Calls Try.prog 60 #[hptr g, vb] w fun e w' => e = .returned (.tuple #[]) ∧ HashF w' g (l ++ b) n w.heap.size ∧ Fr1 g w w' := by
  obtain ⟨v, hB, hs⟩ := h
  obtain ⟨Av, cv, rfl, hv1, hv2⟩ := hs.form
  obtain ⟨Ab, cb, rfl, hb1, hb2⟩ := hb.form
  have hr := restAt_length l
  have hc8 := hB.cell 8
  have hc10 := hB.cell 10
  simp at hc8 hc10
  obtain ⟨A1, c1, w1, hrun1, hown1, hG1, hge1, -⟩ := app_by (w.alloc (.cells #[] 5)) (own_bs0 w) (hs.rd.alloc (.cells #[] 5)) (by simp; omega) (by simp)
  have hF1 : Fr0 w w1 := ((Fr.refl _ w).alloc _).then_ hG1 (fun i hi hk => by have := hge1 i hk; omega)
  rw [List.nil_append] at hrun1 hown1
  obtain ⟨A2, c2, w2, hrun2, hown2, hG2, hge2, -⟩ := app_by w1 hown1 (hb.fr0 hF1) (by omega) hF1.size
  have hF2 : Fr0 w w2 := hF1.then_ hG2 (fun i hi hk => by have := hge2 i hk; omega)
  have HO := Lib.hid (Sl.of_own hown2)
  have HA2 : Hid (∀ a, A2 = some a → w.heap.size ≤ a.block) := Lib.hid (fun a ha => by subst ha; exact own_ge _ hown2 a.block rfl)
  have HF2 := Lib.hid hF2
  have HB2 := Lib.hid (hB.fr hF2 (fun h => h))
  have HR := Lib.hid hr
  have hlen : (restAt l ++ b).length ≤ 2000000000 := by rw [List.length_append]; omega
  generalize hLL : restAt l ++ b = LL at *
  have HLL := Lib.hid hLL
  have hc8a := cell_alloc hc8 (.cells #[] 5)
  clear hr hs hb hB hown1 hown2 hF1 hF2 hG1 hG2 hge1 hge2 hLL
  go_enter Try.func60, Try.ntmps60
  go_wp2_with fail
  go_loopw [4] (fun vv wr => ∃ (k : Nat) (A : Option Addr) (c : Nat), k * 64 ≤ LL.length ∧ vv = .slice A (LL.length - k * 64) c ∧ Blk wr g 120 (hC (absorb k (stAt l) LL) (.slice Av (restAt l).length cv) n) ∧
    Sl wr 5 1 (.slice A (LL.length - k * 64) c) (LL.length - k * 64) (bs (LL.drop (k * 64))) ∧ (∀ a, A = some a → w.heap.size ≤ a.block) ∧ Fr1 g w wr) (fun vv _ => match vv with | .slice _ n _ => n | _ => 0)
  case atStart => exact ⟨0, A2, c2, by omega, rfl, HB2.out, by simpa using HO.out, HA2.out, HF2.out.of0⟩
  case round =>
    obtain ⟨k, A, c, hk, rfl, hB, hS, hAA, hF⟩ := hrel
    have HAA := Lib.hid hAA
    clear hAA
    have hlen2 := hS.bounds
    unfold maxLen at hlen2
    by_cases h64 : 64 ≤ LL.length - k * 64
    · obtain ⟨ba, oa, rfl, -, -⟩ := hS.at_ (k := 0) (by omega)
      have hi64 : (64 : Int) ≤ ((LL.length - k * 64 : Nat) : Int) := by omega
      have hi64' : 64 ≤ c := by omega
      have hdl : (LL.drop (k * 64)).length = LL.length - k * 64 := by simp
      have hl0 := hB.ldA 0 8 (by simp)
      have hHS := Lib.hid hS
      have hHB := Lib.hid hB
      have hHF := Lib.hid hF
      have HLOAD : Hid (∀ W, Fr0 wr W → Calls Try.prog 63 #[.slice (some ⟨ba, oa, none⟩) (LL.length - k * 64) c] W fun e w' => e = .returned (.agg (wsC (wds ((LL.drop (k * 64)).take 64)))) ∧ Fr0 W w') := Lib.hid (fun W hf => by
        have h := load_any (LL.drop (k * 64)) 0 c (some ⟨ba, oa, none⟩) W (by rw [hdl]; exact h64) (by rw [hdl]; exact hS.fr0 hf) (by rw [hdl]; unfold maxLen; omega)
        rwa [hdl] at h)
      have HDL := Lib.hid hdl
      clear hB hS hF hdl
      go_wp2_with fail
      go_region_law (first
        | (go_simp; go_at_call 63
           refine (HLOAD.out wr.drew ((Fr.refl _ wr).drew)).mono ?_
           rintro e w3 ⟨rfl, hf3⟩
           have hf3' : Fr0 wr w3 := ((Fr.refl _ wr).drew).trans hf3
           have hl3 := (hHB.out.fr hf3' (fun h => h)).ldA 0 8 (by simp)
           have HF3 := Lib.hid hf3'
           clear hf3 hf3')
        | (go_simp; go_at_call 62
           refine (process_any (absorb k (stAt l) LL) (wds ((LL.drop (k * 64)).take 64)) w3 (wds_length _)).mono ?_
           rintro e w4 ⟨rfl, hf4⟩
           have hb4 := hHB.out.fr (HF3.out.trans hf4) (fun h => h)
           have hok4 := hb4.okA 0 8 (by simp)
           have HB4 := Lib.hid hb4
           have HF4 := Lib.hid (HF3.out.trans hf4)
           clear hf4 hb4))
      all_goals
        go_wp2_with fail
        go_roundw
        case rel =>
          have hB5 : Blk (putW w4 g 0 (stC (proc (absorb k (stAt l) LL) (wds ((LL.drop (k * 64)).take 64))))) g 120 (hC (absorb (k + 1) (stAt l) LL) (.slice Av (restAt l).length cv) n) := by
            have h := HB4.out.put 0 (stC (proc (absorb k (stAt l) LL) (wds ((LL.drop (k * 64)).take 64))))
            rw [putAt_hC] at h
            rw [absorb_succ k (stAt l) LL hk]
            exact h
          have hF5 := (Fr.refl (fun i => i = g) w4).put (b := g) (fun _ => rfl) 0 (stC (proc (absorb k (stAt l) LL) (wds ((LL.drop (k * 64)).take 64))))
          have hS5 := ((hHS.out.fr0 HF4.out).fr1 hF5 HB4.out (by decide)).cutBack (k := 64) h64
          rw [Nat.mul_one, bs_drop, List.drop_drop] at hS5
          have e1 : LL.length - (k + 1) * 64 = LL.length - k * 64 - 64 := by omega
          have e2 : k * 64 + 64 = (k + 1) * 64 := by omega
          rw [e2] at hS5
          refine ⟨k + 1, if c = 64 then some ⟨ba, oa, none⟩ else some ⟨ba, oa + 64, none⟩, c - 64, by omega, ?_, hB5, ?_, ?_, ?_⟩
          · rw [e1]
          · rw [e1]
            simpa [Addr.add_mid] using hS5
          · intro a ha
            have h0 := HAA.out _ rfl
            split at ha <;> (injection ha with ha; subst ha; exact h0)
          · exact hHF.out.trans (HF4.out.of0.trans hF5)
        case measure => simp; omega
    · have hi64 : ¬ (64 : Int) ≤ ((LL.length - k * 64 : Nat) : Int) := by omega
      have hc8r := hB.cell 8
      have hf8 := hB.frozen 8
      simp at hc8r
      have hHS := Lib.hid hS
      have hHB := Lib.hid hB
      have hHF := Lib.hid hF
      clear hB hS hF
      go_wp2_with fail
      go_end0
      refine ⟨rfl, ?_, hHF.out.setCell (p := ⟨g, 8, none⟩) (fun _ => rfl) _⟩
      have hF5 := (Fr.refl (fun i => i = g) wr).setCell (p := ⟨g, 8, none⟩) (fun _ => rfl) (.slice A (LL.length - k * 64) c)
      obtain ⟨e1, e2⟩ := stAt_more l b k (by rw [HLL.out]; omega)
      rw [HLL.out] at e1 e2
      have hl2 : (restAt (l ++ b)).length = LL.length - k * 64 := by rw [e2]; simp
      refine ⟨A, c, ?_, ?_, HAA.out⟩
      · rw [e1, hl2]
        exact hHB.out.set_ 8 _
      · rw [hl2, e2]
        exact hHS.out.fr1 hF5 hHB.out (by decide)

theorem write_nil (vb : Value) (w : World) : Calls Try.prog 57 #[.pointer none, vb] w fun e w' => e = .returned (.int .i64 1) ∧ w = w' := by
  go_enter Try.func57, Try.ntmps57
  go_wp2_with fail
  go_ret
  exact ⟨rfl, rfl⟩
theorem write_any (g B : Nat) (l b : List UInt8) (vb : Value) (w : World) (h : HashAt w g l) (hb : Rd w B vb b) (hl : b.length ≤ 1000000000) (hl2 : l.length ≤ 1000000000) :
    Calls Try.prog 57 #[hptr g, vb] w fun e w' => e = .returned (.int .i64 0) ∧ HashF w' g (l ++ b) (l ++ b).length w.heap.size ∧ Fr1 g w w' := by
  obtain ⟨Ab, cb, rfl, hb1, hb2⟩ := hb.form
  have H := Lib.hid h
  have HB := Lib.hid hb
  clear h hb
  go_enter Try.func57, Try.ntmps57
  go_wp2_with fail
  refine (take_any g B l b _ _ _ H.out HB.out hl).mono ?_
  rintro e w1 ⟨rfl, hH, hF⟩
  obtain ⟨Ax, cx, hB, hS, hAx⟩ := hH
  have HAx := Lib.hid hAx
  clear hAx
  have hc9 := hB.cell 9
  have hf9 := hB.frozen 9
  simp at hc9
  have HB1 := Lib.hid hB
  have HS1 := Lib.hid hS
  have HF1 := Lib.hid hF
  clear hB hS hF
  have hwr : IntKind.i64.wrap ((l.length : Int) + (b.length : Int)) = (l.length : Int) + (b.length : Int) := IntWalk.i64_in _ (by omega)
  go_wp2_with fail
  go_ret
  have hF5 := (Fr.refl (fun i => i = g) w1).setCell (p := ⟨g, 9, none⟩) (fun _ => rfl) (.int .i64 ((l.length : Int) + (b.length : Int)))
  refine ⟨rfl, ⟨Ax, cx, ?_, HS1.out.fr1 hF5 HB1.out (by decide), HAx.out⟩, HF1.out.trans hF5⟩
  have h := HB1.out.set_ 9 (.int .i64 ((l.length : Int) + (b.length : Int)))
  rw [show ((l ++ b).length : Int) = (l.length : Int) + (b.length : Int) by simp]
  exact h

theorem hclone_nil (w : World) : Calls Try.prog 61 #[.pointer none] w fun e w' => e = .returned (.pointer none) ∧ w = w' := by
  go_enter Try.func61, Try.ntmps61
  go_wp2_with fail
  go_ret
  exact ⟨rfl, rfl⟩
theorem hclone_any (g : Nat) (l : List UInt8) (n : Int) (w : World) (h : HashN w g l n) :
    Calls Try.prog 61 #[hptr g] w fun e w' => ∃ g', e = .returned (hptr g') ∧ w.heap.size ≤ g' ∧ HashF w' g' l n w.heap.size ∧ Fr0 w w' := by
  obtain ⟨v, hB, hs⟩ := h
  obtain ⟨Av, cv, rfl, hv1, hv2⟩ := hs.form
  have hr := restAt_length l
  have hl0 := blk_all hB (n := 11) rfl
  have hB1 := hB.alloc (.cells (hC (stAt l) (.slice Av (restAt l).length cv) n) 120)
  have hs1 := hs.alloc (.cells (hC (stAt l) (.slice Av (restAt l).length cv) n) 120)
  have hN1 := Blk.new w 120 (hC (stAt l) (.slice Av (restAt l).length cv) n)
  have hF1 : Fr0 w (w.alloc (.cells (hC (stAt l) (.slice Av (restAt l).length cv) n) 120)) := (Fr.refl _ w).alloc _
  have hc8 := cell_alloc (cell_alloc (show w.cell? ⟨g, 8, none⟩ = some (.slice Av (restAt l).length cv) by have := hB.cell 8; simpa using this) (.cells (hC (stAt l) (.slice Av (restAt l).length cv) n) 120)) (.cells #[] 5)
  obtain ⟨w1, hw1⟩ : ∃ w1, w1 = w.alloc (.cells (hC (stAt l) (.slice Av (restAt l).length cv) n) 120) := ⟨_, rfl⟩
  rw [← hw1] at hs1 hN1 hB1 hF1
  obtain ⟨A2, c2, w2, hrun2, hown2, hG2, hge2, -⟩ := app_by (w1.alloc (.cells #[] 5)) (own_bs0 w1) (hs1.rd.alloc (.cells #[] 5)) (by simp; omega) (by simp)
  have hF2 : Fr0 w1 w2 := ((Fr.refl _ w1).alloc _).then_ hG2 (fun i hi hk => by have := hge2 i hk; omega)
  rw [List.nil_append] at hrun2 hown2
  have hN2 := hN1.fr hF2 (fun h => h)
  have hc82 := hN2.cell 8
  have hf82 := hN2.frozen 8
  simp at hc82
  rw [hw1, show (w.alloc (.cells (hC (stAt l) (.slice Av (restAt l).length cv) n) 120)).heap.size = w.heap.size + 1 by simp] at hrun2
  have HN2 := Lib.hid hN2
  have HO := Lib.hid (Sl.of_own hown2)
  have HA2 : Hid (∀ a, A2 = some a → w.heap.size ≤ a.block) := Lib.hid (fun a ha => by subst ha; exact Nat.le_trans hF1.size (own_ge _ hown2 a.block rfl))
  have HF := Lib.hid (hF1.trans hF2)
  have HW := Lib.hid hw1
  clear hs hB hr hB1 hs1 hN1 hF1 hown2 hG2 hge2 hF2 hN2 hw1
  go_enter Try.func61, Try.ntmps61
  go_wp2_with fail
  go_ret
  have hF5 := (Fr.refl (fun i => i = w.heap.size) w2).setCell (p := ⟨w.heap.size, 8, none⟩) (fun _ => rfl) (.slice A2 (restAt l).length c2)
  exact ⟨w.heap.size, rfl, Nat.le_refl _, ⟨A2, c2, HN2.out.set_ 8 _, HO.out.fr1 hF5 HN2.out (by decide), HA2.out⟩, HF.out.then_ (S := fun _ => False) hF5 (fun i hi e => by omega)⟩
end Go.Proofs.Ytnholkjgdpapbaa
