/- WindowDrop: the walk. No condition. -/
import Derived.Test.YtbcconeebjmjdaaBuild
namespace Go.Proofs.Ytbcconeebjmjdaa
open Go.RowKit
attribute [local go_sem ↓] Go.wp_at_zero Go.wp_at_succ

theorem filter_outs (l : List Off) : outs (l.filter notOut) = [] := by
  unfold outs
  rw [List.filter_filter]
  simp [notOut]
theorem nset_notOut (l : List Off) : nset (l.filter notOut) = (l.filter notOut).length := by
  have : (l.filter notOut).findIdx? isOut = none := by
    rw [List.findIdx?_eq_none_iff]
    intro o ho
    have := (List.mem_filter.1 ho).2
    simpa [notOut] using this
  unfold nset
  rw [this]; rfl
theorem out_split (l : List Off) : (l.filter notOut).length + (outs l).length = l.length := by
  rw [outs_len]
  induction l with
  | nil => rfl
  | cons o l ih =>
    cases h : isOut o <;> simp [notOut, h] at ih ⊢ <;> omega

set_option maxHeartbeats 2000000 in
theorem drop_walk (a : Int) (l : List OpM) (A : Option Addr) (c : Nat) (w : World) (ha : Arg w w.heap.size A l.length c 34 (l.flatMap opC)) :
    Calls Try.prog 7 #[.int .i64 a, .slice A l.length c] w fun e w' => e = .returned (.bool true) ∧ Below w.heap.size w w' := by
  have hlc := ha.cap
  have hcm := ha.max
  unfold maxLen at hcm
  have HA := Lib.hid ha
  clear ha
  by_cases h100 : (100 : Int) < (l.length : Int)
  · go_enter Try.func7, Try.ntmps7
    go_wp2_with fail
    refine (known_any _).mono ?_
    rintro e w1 ⟨rfl, hf1⟩
    have HF1 := Lib.hid hf1
    clear hf1
    go_wp2_with fail
    refine (known_any _).mono ?_
    rintro e w2 ⟨rfl, hf2⟩
    have HF2 := Lib.hid hf2
    clear hf2
    go_wp2_with fail
    go_ret
    exact ⟨rfl, Fr0.below (HF1.out.trans HF2.out)⟩
  · go_enter Try.func7, Try.ntmps7
    go_wp2_with fail
    refine (known_any _).mono ?_
    rintro e w1 ⟨rfl, hf1⟩
    have HF1 := Lib.hid hf1
    clear hf1
    go_wp2_with fail
    have HA1 := Lib.hid (HA.out.below (Fr0.below HF1.out))
    refine (build_any a l A c w1 ⟨HA1.out.len, HA1.out.cap, HA1.out.max, fun hn => by obtain ⟨b, off, h1, h2, h3⟩ := HA1.out.at_ hn; exact ⟨b, off, h1, by have := HF1.out.size; omega, h3⟩⟩ (by omega)).mono ?_
    rintro e w2 ⟨g, m, v, rfl, hg, hW, hS, hI, hN, hL, hF⟩
    obtain ⟨Av, cv, rfl, -, -⟩ := hS.form
    have HG := Lib.hid (show w.heap.size ≤ g from Nat.le_trans HF1.out.size hg)
    have HB2 := Lib.hid (Fr0.below (HF1.out.trans hF))
    have hgl := hW.lt
    have HW2 := Lib.hid (hW.fr0 ((Fr.refl _ _).alloc (.cells (mdC m (.slice Av m.l.length cv)) 58)))
    have HS2 := Lib.hid (hS.alloc (.cells (mdC m (.slice Av m.l.length cv)) 58))
    have HM2 := Lib.hid (Blk.new w2 58 (mdC m (.slice Av m.l.length cv)))
    have HI := Lib.hid hI
    have hml : m.l.length ≤ 10000 := by omega
    clear hg hW hS hI hN hF
    go_wp2_with fail
    refine (drop_any g m _ HW2.out hml).mono ?_
    rintro e w3 ⟨d, rfl, hd, hW, hF⟩
    obtain ⟨Ad, cd, rfl, -, -⟩ := own_form hd
    obtain ⟨vw, hBg, -⟩ := HW2.out
    have HW3 := Lib.hid hW
    have HD3 := Lib.hid (Sl.of_own hd)
    have HS3 := Lib.hid (HS2.out.fr1 hF hBg (by decide))
    have HM3 := Lib.hid (HM2.out.fr hF (by omega))
    have HB3 := Lib.hid (HB2.out.trans (Fr1.belowB (((Fr.refl (fun k => k = g) w2).alloc _).trans hF) HB2.out.size HG.out))
    have hln : (m.l.filter notOut).length ≤ 10000 := Nat.le_trans (List.length_filter_le _ _) hml
    clear hW hd hF hBg vw
    go_wp2_with fail
    refine (len_any g _ _ HW3.out).mono ?_
    rintro e w4 ⟨rfl, rfl⟩
    go_wp2_with fail
    refine (settled_any g _ _ HW3.out hln).mono ?_
    rintro e w5 ⟨r, rfl, hr, hW, hF⟩
    dsimp only at hr hW
    rw [nset_notOut] at hr hW
    rw [List.drop_length] at hW
    obtain ⟨Ar, cr, rfl, -, -⟩ := own_form hr
    obtain ⟨vw, hBg, -⟩ := HW3.out
    have HW5 := Lib.hid hW
    have HD5 := Lib.hid (HD3.out.fr1 hF hBg (by decide))
    have HS5 := Lib.hid (HS3.out.fr1 hF hBg (by decide))
    have HM5 := Lib.hid (HM3.out.fr hF (by omega))
    have HB5 := Lib.hid (HB3.out.trans (Fr1.belowB hF HB3.out.size HG.out))
    have hx0 := HM5.out.cell 0
    have hx1 := HM5.out.cell 1
    simp at hx0 hx1
    have HSP := Lib.hid (out_split m.l)
    clear hW hr hF hBg vw
    go_wp2_with fail
    refine (mout_any m _ _ HS5.out HI.out hml).mono ?_
    rintro e w6 ⟨u, rfl, hu, hF⟩
    have HW6 := Lib.hid (HW5.out.fr0 hF)
    have HD6 := Lib.hid (HD5.out.fr0 hF)
    have HU6 := Lib.hid (Sl.of_own hu)
    have HM6 := Lib.hid (show Blk w6 w2.heap.size 58 (mdC m (.slice Av m.l.length cv)) from Blk.fr (S := fun _ => False) HM5.out hF (fun h => h))
    have HB6 := Lib.hid (HB5.out.trans (hF.belowB HB5.out.size))
    clear hu hF hx0 hx1
    go_wp2_with fail
    refine (ids_any (outs m.l) (outs m.l) _ _ _ HD6.out HU6.out).mono ?_
    rintro e w7 ⟨rfl, hF⟩
    have HW7 := Lib.hid (HW6.out.fr0 hF)
    have HM7 := Lib.hid (show Blk w7 w2.heap.size 58 (mdC m (.slice Av m.l.length cv)) from Blk.fr (S := fun _ => False) HM6.out hF (fun h => h))
    have HB7 := Lib.hid (HB6.out.trans (hF.belowB HB6.out.size))
    clear hF
    simp only [decide_true]
    go_wp2_with fail
    refine (outstanding_any' g _ _ HW7.out (by simp)).mono ?_
    rintro e w8 ⟨A8, c8, rfl, -, hF⟩
    have HW8 := Lib.hid (HW7.out.fr0 hF)
    have HM8 := Lib.hid (show Blk w8 w2.heap.size 58 (mdC m (.slice Av m.l.length cv)) from Blk.fr (S := fun _ => False) HM7.out hF (fun h => h))
    have HB8 := Lib.hid (HB7.out.trans (hF.belowB HB7.out.size))
    clear hF
    have hx0 := HM8.out.cell 0
    have hx1 := HM8.out.cell 1
    simp at hx0 hx1
    have hw1 : IntKind.i64.wrap (((m.l.filter notOut).length : Int) + ((outs m.l).length : Int)) = (m.l.length : Int) := by
      have := HSP.out
      rw [IntWalk.i64_in _ (by omega)]; omega
    simp only [show (outs ([] : List Off)).length = 0 from rfl]
    go_wp2_with fail
    refine (len_any g _ _ HW8.out).mono ?_
    rintro e w9 ⟨rfl, rfl⟩
    clear hw1 hx0 hx1
    simp only [List.length_nil]
    go_wp2_with fail
    have hs1 := HI.out.s1
    have hs2 := HI.out.s2
    refine (room_any g _ _ HW8.out (by simp) (by dsimp only; omega) (by dsimp only; omega)).mono ?_
    rintro e w9 ⟨rfl, hF⟩
    have HW9 := Lib.hid (HW8.out.fr0 hF)
    have HB9 := Lib.hid (HB8.out.trans (hF.belowB HB8.out.size))
    clear hF
    have hmx : max 0 (m.size - ((outs ([] : List Off)).length : Int)) = m.size := by rw [show (outs ([] : List Off)).length = 0 from rfl]; omega
    rw [hmx]
    clear hmx
    go_wp2_with fail
    refine (size_any g _ _ HW9.out).mono ?_
    rintro e w10 ⟨rfl, rfl⟩
    dsimp only
    go_wp2_with fail
    go_ret
    exact ⟨rfl, HB9.out⟩
end Go.Proofs.Ytbcconeebjmjdaa
