/- Sha256Parse: the walk. No condition. -/
import Derived.Test.YtndcofoilglpjaaPar
namespace Go.Proofs.Ytndcofoilglpjaa
set_option linter.unusedVariables false
set_option linter.unusedSimpArgs false
open Go.RowKit
attribute [local go_sem ↓] Go.wp_at_zero Go.wp_at_succ

set_option maxHeartbeats 1500000 in
theorem parse_walk (s : ByteArray) (w : World) :
    Calls Try.prog 10 #[.string s] w fun e w' => e = .returned (.bool true) ∧ Below w.heap.size w w' := by
  go_enter Try.func10, Try.ntmps10
  go_wp2_with fail
  all_goals
    first
    | (obtain ⟨t, ht⟩ : ∃ t, t = s.extract 0 200 := ⟨_, rfl⟩
       rw [← ht]
       have hts : t.size ≤ 200 := by rw [ht, ByteArray.size_extract]; omega)
    | (obtain ⟨t, ht⟩ : ∃ t, t = s := ⟨_, rfl⟩
       have hts : t.size ≤ 200 := by rw [ht]; omega
       rw [← ht])
    have HTS := Lib.hid hts
    clear h ht hts
    obtain ⟨Z, hZ⟩ : ∃ Z, Z = (bs zero32).toArray := ⟨_, rfl⟩
    have hbd : ∀ w, (bd 25 #[]).run Try.prog w = .ok (.agg Z) w := fun w => by rw [hZ]; kernel_rfl
    have hst : ∀ (w : World) (b' p : Nat), okA w b' p 32 = true → (st 25 (.pointer (some ⟨b', p, none⟩)) (.agg Z)).run Try.prog w = .ok () (putW w b' p Z) := by rw [hZ]; exact dig_st ⟨zero32, by simp⟩
    have hsz : Z.size = 32 := by rw [hZ]; simp
    have heq : ∀ w, (eqv 25 (.agg Z) (.agg Z)).run Try.prog w = .ok (.bool true) w := fun w => by rw [hZ]; exact run_dig_same w zero32 (by simp)
    rcases Nat.lt_trichotomy t.size 64 with HT2 | HT2 | HT2
    · have z0 : (t.size : Int) < 64 := by omega
      have z1 : ¬ (64 : Int) < (t.size : Int) := by omega
      refine (parse_short t w HT2).mono ?_
      rintro e w2 ⟨rfl, hf2⟩
      rw [← hZ]
      clear hZ HT2
      have HF2 := Lib.hid (hf2.alloc (.cells Z 25))
      have HD2 := Lib.hid (Blk.new w2 25 Z)
      clear hf2
      go_wp2_with fail
      refine (runhex_any t _ (by have := HTS.out; omega)).mono ?_
      rintro e w3 ⟨⟨A, c, -, rfl, -⟩ | ⟨-, rfl⟩, hf3⟩
      all_goals
        have HF3 := Lib.hid (HF2.out.trans hf3)
        have HD3 := Lib.hid (HD2.out.fr hf3 (fun h => h))
        clear hf3
        go_wp2_with fail
        refine (known_any _).mono ?_
        rintro e w4 ⟨rfl, hf4⟩
        have hld4 := blk_all (HD3.out.fr hf4 (fun h => h)) hsz
        have HF4 := Lib.hid (HF3.out.trans hf4)
        clear hf4
        go_wp2_with fail
        go_ret
        exact ⟨rfl, Fr0.below HF4.out⟩
    · have z0 : ¬ (t.size : Int) < 64 := by omega
      have z1 : ¬ (64 : Int) < (t.size : Int) := by omega
      refine (parse_any t w HT2).mono ?_
      have HS := Lib.hid HT2
      rintro e w2 ⟨⟨hx, rfl⟩ | ⟨hx, rfl⟩, hf2⟩
      · have hyl := upTo_length t.data.toList 32
        clear hbd hst hsz heq hZ HT2
        have hst : ∀ (w : World) (b' p : Nat), okA w b' p 32 = true → (st 25 (.pointer (some ⟨b', p, none⟩)) (.agg (bs (upTo t.data.toList 32)).toArray)).run Try.prog w = .ok () (putW w b' p (bs (upTo t.data.toList 32)).toArray) := dig_st ⟨upTo t.data.toList 32, hyl⟩
        have hsz : (bs (upTo t.data.toList 32)).toArray.size = 32 := by simp
        have HF2 := Lib.hid (hf2.alloc (.cells (bs (upTo t.data.toList 32)).toArray 25))
        have HD2 := Lib.hid (Blk.new w2 25 (bs (upTo t.data.toList 32)).toArray)
        obtain ⟨Y, hY⟩ : ∃ Y, Y = upTo t.data.toList 32 := ⟨_, rfl⟩
        rw [← hY] at hst hsz hyl HF2 HD2 ⊢
        have HY := Lib.hid hY
        have HYL := Lib.hid hyl
        have HX := Lib.hid hx
        have hstrs := run_eql_str
        clear hf2 hY hyl hx
        go_wp2_with fail
        refine (runhex_any t _ (by have := HTS.out; omega)).mono ?_
        rintro e w3 ⟨⟨A, c, -, rfl, hown⟩ | ⟨hx, rfl⟩, hf3⟩
        · have h32 : t.size / 2 = 32 := by have := HS.out; omega
          rw [h32] at hown ⊢
          rw [← HY.out] at hown
          have HF3 := Lib.hid (HF2.out.trans hf3)
          have HD3 := Lib.hid (HD2.out.fr hf3 (fun h => h))
          have HR3 := Lib.hid (Sl.rd (Sl.of_own (show w3.ownsRow _ 5 1 (.slice A 32 c) Y.length (bs Y) from by rw [HYL.out]; exact hown)))
          clear hown hf3 h32 hst hsz
          go_wp2_with fail
          clear z0 z1
          have hcvA : ∀ w', Fr0 w3 w' → (convert 22 9 (.slice (some ⟨w2.heap.size, 0, none⟩) 32 32)).run Try.prog w' = .ok (.string ⟨Y.toArray⟩) w' := fun w' h => rd_string (Rd.of_blk (HD3.out.fr h (fun h => h)) 32 HYL.out (by unfold maxLen; omega))
          have hcvB : ∀ w', Fr0 w3 w' → (convert 22 9 (.slice A 32 c)).run Try.prog w' = .ok (.string ⟨Y.toArray⟩) w' := fun w' h => rd_string (HR3.out.fr0 h)
          go_region_held3 (fun w' => Fr0 w3 w') (first | assumption | exact Fr.refl _ _ | exact Fr.drew (Fr.refl _ _) | exact Fr.drew (by assumption) | exact Fr.drewN (Fr.refl _ _) _ | exact Fr.drewN (by assumption) _)
            (first
            | (go_at_call 13
               refine (known_any _).mono ?_
               rintro e w4 ⟨rfl, hf4⟩
               have HF4 : Fr0 w3 w4 := ((Fr.refl _ _).drewN _).trans hf4
               clear hf4))
          all_goals
            go_wp2_with fail
            go_ret
            exact ⟨rfl, Fr0.below (HF3.out.trans (by assumption))⟩
        · exact absurd HX.out hx
      · rw [← hZ]
        have HX := Lib.hid hx
        have HF2 := Lib.hid (hf2.alloc (.cells Z 25))
        have HD2 := Lib.hid (Blk.new w2 25 Z)
        clear hf2 hx hZ HT2
        go_wp2_with fail
        refine (runhex_any t _ (by have := HTS.out; omega)).mono ?_
        rintro e w3 ⟨⟨A, c, hx, rfl, -⟩ | ⟨-, rfl⟩, hf3⟩
        · exact absurd hx HX.out
        · have HF3 := Lib.hid (HF2.out.trans hf3)
          have HD3 := Lib.hid (HD2.out.fr hf3 (fun h => h))
          clear hf3
          go_wp2_with fail
          refine (known_any _).mono ?_
          rintro e w4 ⟨rfl, hf4⟩
          have hld4 := blk_all (HD3.out.fr hf4 (fun h => h)) hsz
          have HF4 := Lib.hid (HF3.out.trans hf4)
          clear hf4
          go_wp2_with fail
          go_ret
          exact ⟨rfl, Fr0.below HF4.out⟩
    · have z1 : (64 : Int) < (t.size : Int) := by omega
      refine (parse_long t w HT2).mono ?_
      rintro e w2 ⟨rfl, hf2⟩
      rw [← hZ]
      clear hZ HT2
      have HF2 := Lib.hid (hf2.alloc (.cells Z 25))
      have HD2 := Lib.hid (Blk.new w2 25 Z)
      clear hf2
      go_wp2_with fail
      refine (runhex_any t _ (by have := HTS.out; omega)).mono ?_
      rintro e w3 ⟨⟨A, c, -, rfl, -⟩ | ⟨-, rfl⟩, hf3⟩
      all_goals
        have HF3 := Lib.hid (HF2.out.trans hf3)
        have HD3 := Lib.hid (HD2.out.fr hf3 (fun h => h))
        clear hf3
        go_wp2_with fail
        refine (known_any _).mono ?_
        rintro e w4 ⟨rfl, hf4⟩
        have hld4 := blk_all (HD3.out.fr hf4 (fun h => h)) hsz
        have HF4 := Lib.hid (HF3.out.trans hf4)
        clear hf4
        go_wp2_with fail
        go_ret
        exact ⟨rfl, Fr0.below HF4.out⟩
end Go.Proofs.Ytndcofoilglpjaa
