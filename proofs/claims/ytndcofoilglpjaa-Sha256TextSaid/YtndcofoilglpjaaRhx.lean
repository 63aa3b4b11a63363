/- The reference's Hex. No condition beyond the lengths that are named. -/
import Derived.Test.YtndcofoilglpjaaPar
import Derived.StillTailTactics
namespace Go.Proofs.Ytndcofoilglpjaa
set_option linter.unusedVariables false
set_option linter.unusedSimpArgs false
open Go.RowKit
attribute [local go_sem ↓] Go.wp_at_zero Go.wp_at_succ

@[go_sem] theorem run8_quo16 (w : World) (c : UInt8) : (op8 .quo (u8 c) (.int .u8 16)).run Try.prog w = .ok (u8 (c / 16)) w := by
  have h : IntKind.u8.wrap ((c.toNat : Int).tdiv 16) = ((c / 16).toNat : Int) := by
    have := c.toNat_lt
    rw [Int.tdiv_eq_ediv_of_nonneg (by omega), UInt8.toNat_div]
    simp only [IntKind.wrap, IntKind.bits, IntKind.signed]
    simp
    omega
  exact (show Sem.run _ (pure (Value.int IntKind.u8 _)) w = _ from by rw [h]; rfl)
@[go_sem] theorem run8_rem16 (w : World) (c : UInt8) : (op8 .rem (u8 c) (.int .u8 16)).run Try.prog w = .ok (u8 (c % 16)) w := by
  have h : ((c.toNat : Int).tmod 16) = ((c % 16).toNat : Int) := by
    have := c.toNat_lt
    rw [Int.tmod_eq_emod_of_nonneg (by omega), UInt8.toNat_mod]
    simp
  exact (show Sem.run _ (pure (Value.int IntKind.u8 _)) w = _ from by rw [h]; rfl)
@[go_sem] theorem run_sl_u8_2 (w : World) (x y : UInt8) : (bsl 22 2 #[(0, Proofs.Ytndcofoilglpjaa.u8 x), (1, Proofs.Ytndcofoilglpjaa.u8 y)]).run Try.prog w = .ok (.slice (some ⟨w.heap.size, 0, none⟩) 2 2) (w.alloc (.cells #[Proofs.Ytndcofoilglpjaa.u8 x, Proofs.Ytndcofoilglpjaa.u8 y] 5)) := by kernel_rfl
theorem own_bs2 (w : World) (x y : UInt8) : (w.alloc (.cells #[Proofs.Ytndcofoilglpjaa.u8 x, Proofs.Ytndcofoilglpjaa.u8 y] 5)).ownsRow w.heap.size 5 1 (.slice (some ⟨w.heap.size, 0, none⟩) 2 2) [x, y].length (bs [x, y]) :=
  ⟨by simp, .inr ⟨w.heap.size, 2, #[Proofs.Ytndcofoilglpjaa.u8 x, Proofs.Ytndcofoilglpjaa.u8 y], rfl, Nat.le_refl _, alloc_heap_new w _, Nat.le_refl _, by unfold maxLen; omega, by simp, by simp [bs]⟩⟩

set_option maxHeartbeats 2000000 in
theorem rhex_any (l : List UInt8) (B : Nat) (v : Value) (w : World) (hs : Rd w B v l) (h0 : l ≠ []) (hl : l.length ≤ 100000) :
    Calls Try.prog 24 #[v] w fun e w' => e = .returned (.string ⟨(hexL l).toArray⟩) ∧ Fr0 w w' := by
  obtain ⟨A, c, rfl, h1, h2⟩ := hs.form
  have hpos : 0 < l.length := List.length_pos_iff.2 h0
  obtain ⟨b, off, rfl, -, hb, hx⟩ := hs.at_ hpos
  have HX := Lib.hid hx
  clear hs hx
  go_enter Try.func24, Try.ntmps24
  go_wp2_with fail
  go_loopw [3, 4] (fun vv iv wr => ∃ k : Nat, k ≤ l.length ∧ iv = .int .i64 k ∧ wr.ownsRow w.heap.size 5 1 vv (hexL (l.take k)).length (bs (hexL (l.take k))) ∧ Fr0 w wr) (fun _ iv _ => l.length - (intOf iv).toNat)
  case atStart => exact ⟨0, by omega, rfl, own_nil8 _ _, Fr.refl _ _⟩
  case round =>
    obtain ⟨k, hk, rfl, hown, hF⟩ := hrel
    obtain ⟨Ar, cr, rfl, hc1, hc2⟩ := own_form hown
    by_cases hlt : k < l.length
    · have hc : wr.cell? ⟨b, off + k, none⟩ = some (Proofs.Ytndcofoilglpjaa.u8 l[k]) := by
        rw [hF.cell (p := ⟨b, off + k, none⟩) hb (fun h => h)]
        exact HX.out k _ (by simp [hlt])
      have htk : l.take (k + 1) = l.take k ++ [l[k]] := by rw [List.take_succ_eq_append_getElem hlt]
      have hix1 := run_ixs (l[k] / 16) (div_lt16 _)
      have hix2 := run_ixs (l[k] % 16) (mod_lt16 _)
      have hln : (hexL (l.take k)).length ≤ 200000 := by rw [hexL_length]; have := List.length_take_le k l; omega
      have hcw : w.cell? ⟨b, off + k, none⟩ = some (Proofs.Ytndcofoilglpjaa.u8 l[k]) := HX.out k _ (by simp [hlt])
      obtain ⟨x, hxk⟩ : ∃ x, x = l[k] := ⟨_, rfl⟩
      rw [← hxk] at hcw
      have HCW := Lib.hid hcw
      clear hcw
      rw [← hxk] at hc htk hix1 hix2
      obtain ⟨P, hP⟩ : ∃ P, P = hexL (l.take k) := ⟨_, rfl⟩
      rw [← hP] at hown hln hc1 ⊢
      obtain ⟨A2, c2, w2, hrun2, hown2, hG2, hge2, -⟩ := app_by (wr.alloc (.cells #[Proofs.Ytndcofoilglpjaa.u8 (hexDig (x / 16)), Proofs.Ytndcofoilglpjaa.u8 (hexDig (x % 16))] 5)).drew (own_fr0 hown (((Fr.refl _ _).alloc _).drew)) ((Sl.rd (Sl.of_own (own_bs2 wr (hexDig (x / 16)) (hexDig (x % 16))))).fr0 ((Fr.refl _ _).drew)) (by simp only [List.length_cons, List.length_nil]; omega) (by have := hF.size; simp; omega)
      have hF2 : Fr0 w w2 := ((hF.alloc _).drew).then_ hG2 (fun i hi hk => by have := hge2 i hk; omega)
      have hps : P ++ [hexDig (x / 16), hexDig (x % 16)] = hexL (l.take (k + 1)) := by rw [htk, hexL_snoc, ← hP]; simp
      obtain ⟨N0, hN0⟩ : ∃ N, N = P.length := ⟨_, rfl⟩
      obtain ⟨M, hM⟩ : ∃ N, N = (P ++ [hexDig (x / 16), hexDig (x % 16)]).length := ⟨_, rfl⟩
      rw [← hM] at hrun2 hown2
      rw [← hN0] at hrun2 hc1 ⊢
      have hc2 : w2.cell? ⟨b, off + k, none⟩ = some (Proofs.Ytndcofoilglpjaa.u8 x) := by rw [hF2.cell (p := ⟨b, off + k, none⟩) hb (fun h => h)]; exact HCW.out
      have HO2 := Lib.hid hown2
      have HF2 := Lib.hid hF2
      have HPS := Lib.hid hps
      have HM := Lib.hid hM
      clear hF hown htk hxk hP hln hown2 hG2 hge2 hF2 hps hN0 hM
      go_wp2_with fail
      go_region_held3 (fun w' => w'.cell? ⟨b, off + k, none⟩ = some (Proofs.Ytndcofoilglpjaa.u8 x)) (first | assumption | exact cell_alloc (by assumption) _) (first | fail)
      all_goals
       go_wp2_with fail
       clear hc hc2 hix1 hix2 hrun2
       go_roundw
       case rel =>
         have h1 := HO2.out
         have h2 := HM.out
         rw [HPS.out] at h1 h2
         rw [h2] at h1 ⊢
         first
         | exact ⟨k + 1, by omega, by go_num, h1, HF2.out⟩
         | ((repeat apply Exists.intro); exact ⟨⟨k + 1, by omega, by go_num, h1, HF2.out⟩, rfl⟩)
       case measure => simp [intOf]; omega
    · have hkl : k = l.length := by omega
      subst hkl
      rw [List.take_length] at hown hc1 ⊢
      have hcv := rd_string (Sl.rd (Sl.of_own hown))
      obtain ⟨N0, hN0⟩ : ∃ N, N = (hexL l).length := ⟨_, rfl⟩
      rw [← hN0] at hcv hc1 ⊢
      have HF := Lib.hid hF
      clear hF hown hN0
      go_wp2_with fail
      go_ret
      exact ⟨rfl, HF.out⟩
end Go.Proofs.Ytndcofoilglpjaa
