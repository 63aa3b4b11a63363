/- Sha256Text: the walk. No condition. -/
import Derived.Test.YtndcofoilglpjaaRhx
namespace Go.Proofs.Ytndcofoilglpjaa
set_option linter.unusedVariables false
set_option linter.unusedSimpArgs false
open Go.RowKit
attribute [local go_sem ↓] Go.wp_at_zero Go.wp_at_succ

theorem hexL_cons (c : UInt8) (l : List UInt8) : hexL (c :: l) = hexDig (c / 16) :: hexDig (c % 16) :: hexL l := by simp [hexL, hexB]
theorem hexL_get (l : List UInt8) : ∀ (k : Nat) (h : k < l.length), (hexL l).getD (2 * k) 0 = hexDig (l[k] / 16) ∧ (hexL l).getD (2 * k + 1) 0 = hexDig (l[k] % 16) := by
  induction l with
  | nil => intro k h; simp at h
  | cons c l ih =>
    intro k h
    rw [hexL_cons]
    cases k with
    | zero => exact ⟨rfl, rfl⟩
    | succ k =>
      have := ih k (by simpa using h)
      rw [show 2 * (k + 1) = (2 * k + 1) + 1 by omega, show (2 * k + 1) + 1 + 1 = (2 * k + 1 + 1) + 1 by omega]
      simp only [List.getD_cons_succ, List.getElem_cons_succ]
      exact this
theorem nb_hexDig (x : UInt8) (h : x.toNat < 16) : nb (hexDig x) = (x.toNat : Int) := by
  have key : ∀ i : Fin 16, nb (hexDig (UInt8.ofNat i.1)) = ((UInt8.ofNat i.1).toNat : Int) := by decide +kernel
  have := key ⟨x.toNat, h⟩
  simpa using this
theorem okP_hexL (l : List UInt8) (k : Nat) (h : k < l.length) : okP (hexL l) k := by
  obtain ⟨h1, h2⟩ := hexL_get l k h
  unfold okP
  rw [h1, h2, nb_hexDig _ (div_lt16 _), nb_hexDig _ (mod_lt16 _)]
  omega
theorem byP_hexL (l : List UInt8) (k : Nat) (h : k < l.length) : byP (hexL l) k = l[k] := by
  obtain ⟨h1, h2⟩ := hexL_get l k h
  unfold byP
  rw [h1, h2, nb_hexDig _ (div_lt16 _), nb_hexDig _ (mod_lt16 _)]
  apply UInt8.toNat_inj.1
  have := l[k].toNat_lt
  rw [UInt8.toNat_ofNat', UInt8.toNat_div, UInt8.toNat_mod]
  simp
  omega
theorem isHex_hexL (l : List UInt8) : IsHex (hexL l) := ⟨by rw [hexL_length]; omega, fun k h => okP_hexL l k (by rw [hexL_length] at h; omega)⟩
theorem upTo_hexL (l : List UInt8) : upTo (hexL l) l.length = l := by
  apply List.ext_getElem
  · simp
  · intro i h1 h2
    simp only [upTo, List.getElem_map, List.getElem_range]
    exact byP_hexL l i h2

set_option maxHeartbeats 4000000 in
theorem text_walk (d : By 32) (w : World) :
    Calls Try.prog 9 #[.agg (bs d.1).toArray] w fun e w' => e = .returned (.bool true) ∧ Below w.heap.size w w' := by
  have hsz : (bs d.1).toArray.size = 32 := by simp [d.2]
  obtain ⟨D, hD⟩ : ∃ D, D = (bs d.1).toArray := ⟨_, rfl⟩
  rw [← hD] at hsz ⊢
  have HD := Lib.hid hD
  clear hD
  have hext : D.extract 0 32 = D := by rw [← hsz]; simp
  have hln := d.2
  have hnil : d.1 ≠ [] := by intro h; rw [h] at hln; simp at hln
  have hb1 := Blk.new w 24 D
  have HB1 := Lib.hid hb1
  have HF1 := Lib.hid ((Fr.refl (fun _ => False) w).alloc (.cells D 24))
  have HLN := Lib.hid hln
  have HNIL := Lib.hid hnil
  have hhl : (hexL d.1).length = 64 := by rw [hexL_length, hln]
  have HHL := Lib.hid hhl
  clear hb1 hln hnil hhl
  go_enter Try.func9, Try.ntmps9
  go_wp2_with fail
  rw [HD.out]
  refine (dstring_any d _).mono ?_
  rintro e w2 ⟨rfl, hf2⟩
  rw [← HD.out] at hf2 ⊢
  have HF2 := Lib.hid (HF1.out.trans hf2)
  have HB2 := Lib.hid (HB1.out.fr hf2 (fun h => h))
  clear hf2
  obtain ⟨s, hs⟩ : ∃ s : ByteArray, s = ⟨(hexL d.1).toArray⟩ := ⟨_, rfl⟩
  rw [← hs]
  have hss : s.data.toList = hexL d.1 := by rw [hs]
  have hsz64 : s.size = 64 := by rw [hs]; exact HHL.out
  have HS := Lib.hid hs
  have HSS := Lib.hid hss
  have HS64 := Lib.hid hsz64
  clear hs hss hsz64
  go_wp2_with fail
  refine (parse_any s w2 HS64.out).mono ?_
  rintro e w3 ⟨⟨-, rfl⟩ | ⟨hx, rfl⟩, hf3⟩
  · have hup : upTo s.data.toList 32 = d.1 := by
      have := upTo_hexL d.1
      rw [HLN.out] at this
      rw [HSS.out]; exact this
    rw [hup, ← HD.out]
    clear hup
    have hst : ∀ (w : World) (b' p : Nat), okA w b' p 32 = true → (st 25 (.pointer (some ⟨b', p, none⟩)) (.agg D)).run Try.prog w = .ok () (putW w b' p D) := by rw [HD.out]; exact dig_st d
    have HF3 := Lib.hid ((HF2.out.trans hf3).alloc (.cells D 25))
    have HB3 := Lib.hid ((HB2.out.fr hf3 (fun h => h)).alloc (.cells D 25))
    have HD3 := Lib.hid (Blk.new w3 25 D)
    have hstrs := run_eql_str
    have heq : ∀ w, (eqv 25 (.agg D) (.agg D)).run Try.prog w = .ok (.bool true) w := fun w => by rw [HD.out]; exact run_dig_same w d.1 d.2
    clear hf3
    go_wp2_with fail
    refine (known_any _).mono ?_
    rintro e w4 ⟨rfl, hf4⟩
    have HF4 := Lib.hid (HF3.out.trans hf4)
    have HB4 := Lib.hid (HB3.out.fr hf4 (fun h => h))
    have HD4 := Lib.hid (HD3.out.fr hf4 (fun h => h))
    clear hf4
    go_wp2_with fail
    refine (rhex_any d.1 _ _ _ (Rd.of_blk (by have := HB4.out; rwa [HD.out] at this) 32 HLN.out (by unfold maxLen; omega)) HNIL.out (by have := HLN.out; omega)).mono ?_
    rintro e w5 ⟨rfl, hf5⟩
    rw [← HS.out]
    have HF5 := Lib.hid (HF4.out.trans hf5)
    have hl1 := blk_all (HB4.out.fr hf5 (fun h => h)) hsz
    have hl2 := blk_all (HD4.out.fr hf5 (fun h => h)) hsz
    clear hf5
    go_wp2_with fail
    go_ret
    exact ⟨rfl, Fr0.below HF5.out⟩
  · exact absurd (by rw [HSS.out]; exact isHex_hexL _) hx
end Go.Proofs.Ytndcofoilglpjaa
