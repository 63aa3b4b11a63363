/- Hexadecimal text read by the reference: bulletinref01.Unhex. No condition beyond the lengths that are named. -/
import Derived.Test.YtndcofoilglpjaaUnh
namespace Go.Proofs.Ytndcofoilglpjaa
set_option linter.unusedVariables false
set_option linter.unusedSimpArgs false
open Go.RowKit
attribute [local go_sem ↓] Go.wp_at_zero Go.wp_at_succ

set_option maxHeartbeats 4000000 in
theorem runhex_any (s : ByteArray) (w : World) (hl : s.size ≤ 100000) :
    Calls Try.prog 25 #[.string s] w fun e w' =>
      ((∃ A c, IsHex s.data.toList ∧ e = .returned (.tuple #[.slice A (s.size / 2) c, .int .i64 0]) ∧ w'.ownsRow w.heap.size 5 1 (.slice A (s.size / 2) c) (s.size / 2) (bs (upTo s.data.toList (s.size / 2)))) ∨
       (¬ IsHex s.data.toList ∧ e = .returned (.tuple #[.slice none 0 0, .int .i64 3]))) ∧ Fr0 w w' := by
  have hlen : s.data.toList.length = s.size := rfl
  obtain ⟨l, hll⟩ : ∃ l, l = s.data.toList := ⟨_, rfl⟩
  have HLEN := Lib.hid hlen
  have HLL := Lib.hid hll
  by_cases hodd : s.size % 2 = 0
  · have ho : ((s.size : Int) % 2) = 0 := by omega
    clear hlen
    rw [← hll]
    clear hll
    go_enter Try.func25, Try.ntmps25
    go_wp2_with fail
    go_loopw [4, 5] (fun vv iv wr => ∃ k : Nat, 2 * k ≤ s.size ∧ iv = .int .i64 ((2 * k : Nat) : Int) ∧ (∀ j, j < k → okP l j) ∧ wr.ownsRow w.heap.size 5 1 vv k (bs (upTo l k)) ∧ Fr0 w wr) (fun _ iv _ => s.size + 1 - (intOf iv).toNat)
    case atStart => exact ⟨0, by omega, rfl, fun j hj => by omega, own_nil8 _ _, Fr.refl _ _⟩
    case round =>
      obtain ⟨k, hk, rfl, hok, hown, hf⟩ := hrel
      clear ho
      obtain ⟨Ar, cr, rfl, hc1, hc2⟩ := own_form hown
      by_cases hlt : 2 * k < s.size
      · have hix1 := run_ixs_at s (2 * k) (by omega)
        have hix2 := run_ixs_at s (2 * k + 1) (by omega)
        rw [← HLL.out] at hix1 hix2
        obtain ⟨i, hi⟩ : ∃ i, i = 2 * k := ⟨_, rfl⟩
        rw [← hi] at hix1 hix2 hlt hk ⊢
        have z0 : (i : Int) < (s.size : Int) := by omega
        have hw1 : IntKind.i64.wrap ((i : Int) + 1) = (i : Int) + 1 := IntWalk.i64_in _ (by omega)
        rw [show ((i + 1 : Nat) : Int) = (i : Int) + 1 by omega] at hix2
        obtain ⟨a, ha⟩ : ∃ a, a = l.getD i 0 := ⟨_, rfl⟩
        obtain ⟨b, hb⟩ : ∃ b, b = l.getD (i + 1) 0 := ⟨_, rfl⟩
        rw [← ha] at hix1
        rw [← hb] at hix2
        have HI := Lib.hid hi
        have HA := Lib.hid ha
        have HB := Lib.hid hb
        have HOK := Lib.hid hok
        have HO := Lib.hid hown
        have HF := Lib.hid hf
        clear hi ha hb hok hown hf
        have hrd : ¬ (0 ≤ nb a ∧ 0 ≤ nb b) → ¬ IsHex l := fun hn h => by
          have := h.2 k (by have := HI.out; have := HLEN.out; rw [← HLL.out] at this; omega)
          unfold okP at this
          rw [← HI.out, ← HA.out, ← HB.out] at this
          exact hn this
        by_cases ha0 : nb a < 0
        · have HN := Lib.hid (hrd (by omega))
          clear hrd
          obtain ⟨x, hx⟩ : ∃ x, x = nb a := ⟨_, rfl⟩
          go_wp2_with fail
          go_quiet ((go_at_call 34; exact q1 (nib8 _ _)))
          go_wp2_with fail
          go_ret2
          exact ⟨.inr ⟨HN.out, rfl⟩, HF.out.trans ((Fr.refl _ _).drewN _)⟩
        · by_cases hb0 : nb b < 0
          · have HN := Lib.hid (hrd (by omega))
            clear hrd
            have ha1 : 0 ≤ nb a := by omega
            go_wp2_with fail
            go_quiet ((go_at_call 34; exact q1 (nib8 _ _)))
            go_wp2_with fail
            go_ret2
            exact ⟨.inr ⟨HN.out, rfl⟩, HF.out.trans ((Fr.refl _ _).drewN _)⟩
          · have ha1 : 0 ≤ nb a := by omega
            have hb1 : 0 ≤ nb b := by omega
            have hby : wrap64 (wrap64 (16 * nb a) + nb b) % 256 = nb a * 16 + nb b := by
              have h1 := nibI_lt (a.toNat : Int); have h2 := nibI_lt (b.toNat : Int)
              unfold nb at ha1 hb1 ⊢
              unfold wrap64
              omega
            obtain ⟨x, hx⟩ : ∃ x, x = byP l k := ⟨_, rfl⟩
            have hxx : (x.toNat : Int) = nb a * 16 + nb b := by
              rw [hx, byP, ← HI.out, ← HA.out, ← HB.out, UInt8.toNat_ofNat']
              have := nibI_lt (a.toNat : Int); have := nibI_lt (b.toNat : Int)
              unfold nb at ha1 hb1 ⊢
              omega
            have hbsl : ∀ w, (bsl 22 1 #[(0, .int .u8 (wrap64 (wrap64 (16 * nb a) + nb b) % 256))]).run Try.prog w = .ok (.slice (some ⟨w.heap.size, 0, none⟩) 1 1) (w.alloc (.cells #[Proofs.Ytndcofoilglpjaa.u8 x] 5)) := fun w => by
              rw [hby, ← hxx]; exact run_sl_u8_1 w x
            have HX := Lib.hid hx
            clear hrd hby hx hxx
            go_wp2_with fail
            go_quiet ((go_at_call 34; exact q1 (nib8 _ _)))
            obtain ⟨wq, hwq⟩ : ∃ wq, wq = wr.drewN nq := ⟨_, rfl⟩
            have hfq : Fr0 w wq := by rw [hwq]; exact HF.out.drewN nq
            have hoq : wq.ownsRow w.heap.size 5 1 (.slice Ar k cr) (upTo l k).length (bs (upTo l k)) := by rw [hwq, upTo_length]; exact own_fr0 HO.out ((Fr.refl _ _).drewN nq)
            rw [← hwq]
            obtain ⟨A2, c2, w2, hrun2, hown2, hG2, hge2, -⟩ := app_by (wq.alloc (.cells #[Proofs.Ytndcofoilglpjaa.u8 x] 5)) (own_fr0 hoq ((Fr.refl _ _).alloc _)) (sl_bs1 wq x) (by have := HI.out; rw [upTo_length]; simp only [List.length_singleton]; omega) (by have := hfq.size; simp; omega)
            have hF2 : Fr0 w w2 := (hfq.alloc _).then_ hG2 (fun i hi hk => by have := hge2 i hk; omega)
            rw [show upTo l k ++ [x] = upTo l (k + 1) by rw [HX.out, upTo_succ]] at hrun2 hown2
            rw [upTo_length] at hrun2 hown2
            have HO2 := Lib.hid hown2
            have HF2 := Lib.hid hF2
            clear hwq hfq hoq hG2 hge2 hown2 hF2
            go_wp2_with fail
            clear hrun2 hbsl hix1 hix2 hw1
            go_roundw
            case rel =>
              have hok2 : ∀ j, j < k + 1 → okP l j := fun j hj => by
                rcases Nat.lt_or_ge j k with h | h
                · exact HOK.out j h
                · have : j = k := by omega
                  subst this
                  unfold okP; rw [← HI.out, ← HA.out, ← HB.out]; exact ⟨ha1, hb1⟩
              have := HI.out
              first
              | exact ⟨k + 1, by omega, by simp; omega, hok2, HO2.out, HF2.out⟩
              | ((repeat apply Exists.intro); exact ⟨⟨k + 1, by omega, by simp; omega, hok2, HO2.out, HF2.out⟩, rfl⟩)
            case measure => simp [intOf]; omega
      · have hks : s.size / 2 = k := by omega
        have hih : IsHex l := ⟨by have := HLEN.out; rw [← HLL.out] at this; omega, fun j hj => hok j (by have := HLEN.out; rw [← HLL.out] at this; omega)⟩
        have HIH := Lib.hid hih
        have HO := Lib.hid hown
        have HF := Lib.hid hf
        have HK := Lib.hid hks
        obtain ⟨i, hi⟩ : ∃ i, i = 2 * k := ⟨_, rfl⟩
        rw [← hi] at hlt ⊢
        have z0 : ¬ (i : Int) < (s.size : Int) := by omega
        clear hown hf hih hok hks hi
        go_wp2_with fail
        go_ret2
        first | refine ⟨.inl ⟨Ar, cr, HIH.out, ?_, ?_⟩, HF.out⟩ | refine ⟨.inl ⟨HIH.out, Ar, cr, ?_, ?_⟩, HF.out⟩
        · rw [HK.out]; rfl
        · rw [HK.out]; exact HO.out
  · have ho : ((s.size : Int) % 2) = 1 := by omega
    have hnh : ¬ IsHex s.data.toList := fun h => hodd (by have := h.1; rwa [hlen] at this)
    clear hlen
    go_enter Try.func25, Try.ntmps25
    go_wp2_with fail
    go_ret2
    exact ⟨.inr ⟨hnh, rfl⟩, Fr.refl _ _⟩
end Go.Proofs.Ytndcofoilglpjaa
