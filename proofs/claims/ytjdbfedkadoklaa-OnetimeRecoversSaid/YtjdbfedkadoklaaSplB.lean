/- One-time signatures: the second closure of Split, and each over it. No condition. -/
import Derived.Test.YtjdbfedkadoklaaDig
import Derived.Test.YtjdbfedkadoklaaOtR
namespace Go.Proofs.Ytjdbfedkadoklaa
set_option linter.unusedVariables false
set_option linter.unusedSimpArgs false
set_option maxRecDepth 10000
open Go.RowKit
attribute [local go_sem ↓] Go.wp_at_zero Go.wp_at_succ

abbrev digF (g : Nat) : Value := .func (Fn.func 33) #[] #[.pointer (some ⟨g, 0, none⟩)]
abbrev iv (n : Nat) : Value := .int .i64 (n : Int)
def nis (l : List Nat) : Array Value := (l.map iv).toArray
@[simp] theorem nis_size (l : List Nat) : (nis l).size = l.length := by simp [nis]
/-- What the second closure reads: the digest's box, the sum, the closure digit. -/
def SplC (d : List UInt8) (g0 g2 g3 : Nat) (w : World) : Prop :=
  Blk w g0 22 (bs d).toArray ∧ Blk w g2 3 #[iv (sumN d 32)] ∧ Blk w g3 69 #[digF g0]
theorem SplC.fr0 {d : List UInt8} {g0 g2 g3 : Nat} {w w' : World} (h : SplC d g0 g2 g3 w) (hf : Fr0 w w') : SplC d g0 g2 g3 w' := ⟨h.1.fr hf (fun h => h), h.2.1.fr hf (fun h => h), h.2.2.fr hf (fun h => h)⟩

set_option maxHeartbeats 1000000 in
theorem spl2_fn (d : List UInt8) (hd : d.length = 16) (g0 g2 g3 c : Nat) (hc : c < 35) (w : World) (h : SplC d g0 g2 g3 w) :
    Calls Try.prog 35 #[iv c, .pointer (some ⟨g3, 0, none⟩), .pointer (some ⟨g2, 0, none⟩)] w fun e w' => e = .returned (iv (splN d c)) ∧ w = w' := by
  obtain ⟨hb, h2, h3⟩ := h
  have c3 : w.cell? ⟨g3, 0, none⟩ = some (digF g0) := h3.cell 0
  have c2 : w.cell? ⟨g2, 0, none⟩ = some (iv (sumN d 32)) := h2.cell 0
  have hs := sumN_le d 32
  obtain ⟨S, hS⟩ : ∃ S, S = sumN d 32 := ⟨_, rfl⟩
  rw [← hS] at c2 hs
  by_cases h0 : c < 32
  · have z0 : (c : Int) < 32 := by omega
    have he : digN d c = splN d c := by rw [splN, if_pos h0]
    have HE := Lib.hid he
    have HB := Lib.hid hb
    clear hb h2 h3 he hS
    go_enter Try.func35, Try.ntmps35
    go_wp2_with fail
    refine (digit_fn d hd g0 c h0 w HB.out).mono ?_
    rintro e w1 ⟨rfl, rfl⟩
    go_wp2_with fail
    go_ret
    exact ⟨by rw [HE.out]; rfl, rfl⟩
  · have he : splN d c = if c = 32 then S / 256 else if c = 33 then S / 16 % 16 else S % 16 := by rw [splN, if_neg h0, hS]
    have HE := Lib.hid he
    have z0 : ¬ (c : Int) < 32 := by omega
    clear hb h2 h3 he hS
    rcases (show c = 32 ∨ c = 33 ∨ c = 34 by omega) with rfl | rfl | rfl
    all_goals
      go_enter Try.func35, Try.ntmps35
      go_wp2_with fail
      go_ret
      refine ⟨ret_int ?_, rfl⟩
      rw [HE.out]
      simp
      try omega

theorem setA {k m : Nat} {v : Nat → Nat} (hk : k < m) : (nis ((List.range k).map v ++ List.replicate (m - k) 0)).setIfInBounds k (iv (v k)) = nis ((List.range (k + 1)).map v ++ List.replicate (m - (k + 1)) 0) := by
  unfold nis
  rw [List.setIfInBounds_toArray]
  congr 1
  rw [← List.map_set, List.set_append_right _ _ (by simp), List.length_map, List.length_range, Nat.sub_self, show m - k = (m - (k + 1)) + 1 by omega, List.replicate_succ, List.set_cons_zero, List.range_succ]
  simp
theorem nis_one (l : List Nat) : one1 (nis l) = true := by
  unfold nis
  exact all_one (fun u hu => by obtain ⟨n, _, rfl⟩ := List.mem_map.1 hu; rfl)
theorem zt35 : zeroTail Try.prog 27 0 = nis (List.replicate 35 0) := by kernel_rfl

set_option maxHeartbeats 2000000 in
/-- each over the second closure of Split. -/
theorem each_int (d : List UInt8) (hd : d.length = 16) (g0 g2 g3 : Nat) (w : World) (h : SplC d g0 g2 g3 w) :
    Calls Try.prog 34 #[.func (Fn.func 35) #[] #[.pointer (some ⟨g3, 0, none⟩), .pointer (some ⟨g2, 0, none⟩)]] w fun e w' => e = .returned (.agg (nis (splL d))) ∧ Fr0 w w' := by
  obtain ⟨w2, hw2⟩ : ∃ w2, w2 = (w.alloc (.cells (zeroTail Try.prog 27 0) 27)).alloc (.cells (zeroTail Try.prog 27 0) 27) := ⟨_, rfl⟩
  obtain ⟨hb0, hb1, hf, hs⟩ := alloc2 _ _ _ _ _ _ hw2
  rw [zt35] at hb1
  have hZs := zt__35_int
  have HB := Lib.hid (And.intro hb0 hb1)
  have HF := Lib.hid hf
  have HH := Lib.hid h
  have HW := Lib.hid hw2
  clear hw2 hb0 hb1 hf hs h
  obtain ⟨Z, hZ⟩ : ∃ Z, Z = zeroTail Try.prog 27 0 := ⟨_, rfl⟩
  go_enter Try.func34, Try.ntmps34
  go_wp2_with fail
  refine (show ∀ w', w' = w2 → _ from ?_) _ HW.out.symm
  rintro w' rfl
  rw [← hZ] at hZs HB
  clear hZ HW
  go_loopw [4, 5] (fun _ i wr => ∃ k : Nat, k ≤ 35 ∧ i = .int .i64 k ∧ Blk wr w.heap.size 27 Z ∧ Blk wr (w.heap.size + 1) 27 (nis ((List.range k).map (splN d) ++ List.replicate (35 - k) 0)) ∧ Fr0 w wr) (fun _ i _ => 35 - (intOf i).toNat)
  case atStart => exact ⟨0, by omega, rfl, HB.out.1, HB.out.2, HF.out⟩
  case round =>
    obtain ⟨k, hk, rfl, h0, h1, hf⟩ := hrel
    by_cases hlt : k < 35
    · have z0 : (k : Int) < 35 := by omega
      have hsp := HH.out.fr0 hf
      obtain ⟨y, hy⟩ : ∃ y, (nis ((List.range k).map (splN d) ++ List.replicate (35 - k) 0))[k]? = some y := ⟨_, Array.getElem?_eq_getElem (by simp; omega)⟩
      have c1 : wr.cell? ⟨w.heap.size + 1, k, none⟩ = some y := (h1.cell k).trans hy
      have f1 := h1.frozen k
      have n1 := h1.set_ k (iv (splN d k))
      rw [setA (v := splN d) hlt] at n1
      have n0 := h0.far (p := ⟨w.heap.size + 1, k, none⟩) (by dsimp only; omega) (iv (splN d k))
      have nf := hf.setCell (p := ⟨w.heap.size + 1, k, none⟩) (fun h => by dsimp only at h; omega) (iv (splN d k))
      have HSP := Lib.hid hsp
      have N := Lib.hid (And.intro n0 (And.intro n1 nf))
      clear h0 h1 hf hsp hy n0 n1 nf
      go_wp2_with fail
      refine (spl2_fn d hd g0 g2 g3 k hlt wr HSP.out).mono ?_
      rintro e w1 ⟨rfl, rfl⟩
      go_wp2_with fail
      clear c1 f1
      go_roundw
      case rel =>
        first
        | exact ⟨k + 1, by omega, by go_num, N.out⟩
        | ((repeat apply Exists.intro); exact ⟨⟨k + 1, by omega, by go_num, N.out⟩, rfl⟩)
      case measure => simp [intOf]; omega
    · have hk35 : k = 35 := by omega
      subst hk35
      have hh : nis ((List.range 35).map (splN d) ++ List.replicate (35 - 35) 0) = nis (splL d) := by simp [splL]
      rw [hh] at h1
      have hld := h1.all (n := 35) (by simp)
      have hsz : (nis (splL d)).size = 35 := by simp
      have hone := nis_one (splL d)
      obtain ⟨Y, hY⟩ : ∃ Y, Y = nis (splL d) := ⟨_, rfl⟩
      rw [← hY] at hld hsz hone
      obtain ⟨hok, hput, hfin⟩ := fin_agg (n := 35) (cs := Y) h0 hf (by omega) hZs hsz
      have HP := Lib.hid (And.intro hput hfin)
      have HY := Lib.hid hY
      clear h0 h1 hf hh hput hfin hY
      go_wp2_with fail
      refine bodyPost_agg (n := 35) (cs := Y) rfl Try.underlying27 rfl info__35_int (by rfl) ?_ rfl ?_
      · exact HP.out.1
      · exact ⟨by rw [HY.out], HP.out.2⟩

theorem cell_far {w : World} {a p : Addr} {v : Value} (h : w.cell? a = some v) (hne : a.block ≠ p.block) (u : Value) : (w.setCell p u).cell? a = some v :=
  (World.cell?_of_block (w := w) (Below.heap_setCell w p u a.block hne)).trans h

set_option maxHeartbeats 2000000 in
theorem split_any (d : By 16) (w : World) :
    Calls Try.prog 14 #[.agg (bs d.1).toArray] w fun e w' => e = .returned (.agg (nis (splL d.1))) ∧ Fr0 w w' := by
  have hsz : (bs d.1).toArray.size = 16 := by simp [d.2]
  obtain ⟨V, hV⟩ : ∃ V, V = (bs d.1).toArray := ⟨_, rfl⟩
  rw [← hV] at hsz ⊢
  have hZs := zt__35_int
  obtain ⟨w4, hw4⟩ : ∃ w4, w4 = (((w.alloc (.cells V 22)).alloc (.cells (zeroTail Try.prog 27 0) 27)).alloc (.cells #[.int .i64 0] 3)).alloc (.cells #[digF w.heap.size] 69) := ⟨_, rfl⟩
  obtain ⟨hb0, hb1, hb2, hb3, hf, hs⟩ := alloc4 _ _ _ _ _ _ _ _ _ _ hw4
  have HB := Lib.hid (And.intro hb0 (And.intro hb1 (And.intro hb2 hb3)))
  have HF := Lib.hid hf
  have HW := Lib.hid hw4
  have HV := Lib.hid hV
  clear hV hw4 hb0 hb1 hb2 hb3 hf hs
  obtain ⟨Z, hZ⟩ : ∃ Z, Z = zeroTail Try.prog 27 0 := ⟨_, rfl⟩
  go_enter Try.func14, Try.ntmps14
  go_wp2_with fail
  refine (show ∀ w', w' = w4 → _ from ?_) _ HW.out.symm
  rintro w' rfl
  rw [← hZ] at hZs HB
  clear hZ HW
  go_loopw [5, 7] (fun _ iv wr => ∃ k : Nat, k ≤ 32 ∧ iv = .int .i64 k ∧ Blk wr w.heap.size 22 V ∧ Blk wr (w.heap.size + 1) 27 Z ∧ Blk wr (w.heap.size + 2) 3 #[.int .i64 (sumN d.1 k : Int)] ∧ Blk wr (w.heap.size + 3) 69 #[digF w.heap.size] ∧ Fr0 w wr) (fun _ iv _ => 32 - (intOf iv).toNat)
  case atStart => exact ⟨0, by omega, rfl, HB.out.1, HB.out.2.1, HB.out.2.2.1, HB.out.2.2.2, HF.out⟩
  case round =>
    obtain ⟨k, hk, rfl, h0, h1, h2, h3, hf⟩ := hrel
    by_cases hlt : k < 32
    · have z0 : (k : Int) < 32 := by omega
      have c2 : wr.cell? ⟨w.heap.size + 2, 0, none⟩ = some (.int .i64 (sumN d.1 k : Int)) := h2.cell 0
      have c3 : wr.cell? ⟨w.heap.size + 3, 0, none⟩ = some (digF w.heap.size) := h3.cell 0
      have f2 := h2.frozen 0
      have hd := digN_lt d.1 k
      have hsn := sumN_le d.1 k
      obtain ⟨D, hD⟩ : ∃ D, D = digN d.1 k := ⟨_, rfl⟩
      obtain ⟨S, hS⟩ : ∃ S, S = sumN d.1 k := ⟨_, rfl⟩
      rw [← hS] at c2 hsn
      rw [← hD] at hd
      have hw1 : IntKind.i64.wrap (15 - (D : Int)) = 15 - (D : Int) := IntWalk.i64_in _ (by omega)
      have hw2 : IntKind.i64.wrap ((S : Int) + (15 - (D : Int))) = (S : Int) + (15 - (D : Int)) := IntWalk.i64_in _ (by omega)
      have H0 := Lib.hid (show Blk wr w.heap.size 22 (bs d.1).toArray from by rw [← HV.out]; exact h0)
      have HDD := Lib.hid hD
      have HSS := Lib.hid hS
      have HH := Lib.hid (And.intro h0 (And.intro h1 (And.intro h2 h3)))
      have HFr := Lib.hid hf
      have hval : (S : Int) + (15 - (D : Int)) = (sumN d.1 (k + 1) : Int) := by rw [sumN, ← hS, ← hD]; omega
      have n0 := h0.far (p := ⟨w.heap.size + 2, 0, none⟩) (by dsimp only; omega) (.int .i64 ((S : Int) + (15 - (D : Int))))
      have n1 := h1.far (p := ⟨w.heap.size + 2, 0, none⟩) (by dsimp only; omega) (.int .i64 ((S : Int) + (15 - (D : Int))))
      have n3 := h3.far (p := ⟨w.heap.size + 2, 0, none⟩) (by dsimp only; omega) (.int .i64 ((S : Int) + (15 - (D : Int))))
      have n2 := h2.set_ 0 (.int .i64 ((S : Int) + (15 - (D : Int))))
      have nf := hf.setCell (p := ⟨w.heap.size + 2, 0, none⟩) (fun h => by dsimp only at h; omega) (.int .i64 ((S : Int) + (15 - (D : Int))))
      have e2 : (#[Value.int IntKind.i64 (sumN d.1 k : Int)]).setIfInBounds 0 (.int .i64 ((S : Int) + (15 - (D : Int)))) = #[.int .i64 (sumN d.1 (k + 1) : Int)] := by rw [hval]; rfl
      rw [e2] at n2
      have N := Lib.hid (And.intro n0.drew (And.intro n1.drew (And.intro n2.drew (And.intro n3.drew nf.drew))))
      clear h0 h1 h2 h3 hf hD hS hval n0 n1 n2 n3 nf e2
      go_wp2_with fail
      go_region_law (first
        | (go_simp; go_at_call 33; refine (digit_fn d.1 d.2 _ k hlt _ (H0.out.drew)).mono ?_; rintro e wd ⟨rfl, rfl⟩; rw [← HDD.out]))
      all_goals
        go_wp2_with fail
        clear c2 c3 f2 hw1 hw2
        go_roundw
        case rel =>
          first
          | exact ⟨k + 1, by omega, by go_num, N.out⟩
          | ((repeat apply Exists.intro); exact ⟨⟨k + 1, by omega, by go_num, N.out⟩, rfl⟩)
        case measure => simp [intOf]; omega
    · have hk32 : k = 32 := by omega
      subst hk32
      have HC := Lib.hid (show SplC d.1 w.heap.size (w.heap.size + 2) (w.heap.size + 3) wr from ⟨by rw [← HV.out]; exact h0, h2, h3⟩)
      have H1 := Lib.hid (And.intro h1 hf)
      clear h0 h1 h2 h3 hf
      go_wp2_with fail
      refine (each_int d.1 d.2 _ _ _ wr HC.out).mono ?_
      rintro e w5 ⟨rfl, hf5⟩
      have hone := nis_one (splL d.1)
      have hsz2 : (nis (splL d.1)).size = 35 := by simp
      obtain ⟨Y, hY⟩ : ∃ Y, Y = nis (splL d.1) := ⟨_, rfl⟩
      rw [← hY] at hone hsz2 ⊢
      obtain ⟨hok, hput, hfin⟩ := fin_agg (n := 35) (cs := Y) (H1.out.1.fr hf5 (fun h => h)) (H1.out.2.trans hf5) (by omega) hZs hsz2
      have HP := Lib.hid (And.intro hput hfin)
      have HY := Lib.hid hY
      clear hf5 hput hfin hY
      go_wp2_with fail
      refine bodyPost_agg (n := 35) (cs := Y) rfl Try.underlying27 rfl info__35_int (by rfl) ?_ rfl ?_
      · exact HP.out.1
      · exact ⟨by rw [HY.out], HP.out.2⟩
end Go.Proofs.Ytjdbfedkadoklaa
