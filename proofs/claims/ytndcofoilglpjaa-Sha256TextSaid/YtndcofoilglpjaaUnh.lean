/- Hexadecimal text read: ascii.Unhex and the reference's Unhex. No condition beyond the lengths that are named. -/
import Derived.Test.YtndcofoilglpjaaWri
import Derived.Lib.Bytealg
namespace Go.Proofs.Ytndcofoilglpjaa
set_option linter.unusedVariables false
set_option linter.unusedSimpArgs false
open Go.RowKit
attribute [local go_sem ↓] Go.wp_at_zero Go.wp_at_succ

def nibI (n : Int) : Int := if 48 ≤ n ∧ n ≤ 57 then n - 48 else if 97 ≤ n ∧ n ≤ 102 then n - 87 else -1
theorem nibI_lt (n : Int) : nibI n < 16 := by unfold nibI; split <;> (try split) <;> omega
theorem nibI_ge (n : Int) : -1 ≤ nibI n := by unfold nibI; split <;> (try split) <;> omega
def nb (x : UInt8) : Int := nibI (x.toNat : Int)
theorem nb_index (x : UInt8) : Lib.indexByte [48, 49, 50, 51, 52, 53, 54, 55, 56, 57, 97, 98, 99, 100, 101, 102] x = nb x := by
  have key : ∀ i : Fin 256, Lib.indexByte [48, 49, 50, 51, 52, 53, 54, 55, 56, 57, 97, 98, 99, 100, 101, 102] (UInt8.ofNat i.1) = nb (UInt8.ofNat i.1) := by decide +kernel
  have := key ⟨x.toNat, x.toNat_lt⟩
  simpa using this

theorem lite_index (s : ByteArray) (c : Int) (w : World) :
    Calls Try.prog 47 #[.string s, .int .u8 c] w fun e w' => e = .returned (.int .i64 (Lib.indexByte s.data.toList c.toNat.toUInt8)) ∧ w = w' := by
  go_enter Try.func47, Try.ntmps47
  go_wp2
  rw [run_callFunc_extern Try.func50 (by kernel_rfl) (by kernel_rfl) (by kernel_rfl) (e := Extern.BytealgIndexByte.indexByte) (by kernel_rfl), Lib.run_indexByteString]
  simp only [Result.andThen]
  rw [Oper.upon_value]
  go_wp2
  go_ret
  exact ⟨rfl, rfl⟩
theorem strings_index (s : ByteArray) (c : Int) (w : World) :
    Calls Try.prog 40 #[.string s, .int .u8 c] w fun e w' => e = .returned (.int .i64 (Lib.indexByte s.data.toList c.toNat.toUInt8)) ∧ w = w' := by
  go_enter Try.func40, Try.ntmps40
  go_wp2_with fail
  refine (lite_index s c _).mono ?_
  rintro e w1 ⟨rfl, rfl⟩
  go_wp2_with fail
  go_ret
  exact ⟨rfl, rfl⟩
theorem value_any (x : UInt8) (w : World) : Calls Try.prog 39 #[Proofs.Ytndcofoilglpjaa.u8 x] w fun e w' => e = .returned (.int .i64 (nb x)) ∧ w = w' := by
  unfold Proofs.Ytndcofoilglpjaa.u8
  go_enter Try.func39, Try.ntmps39
  go_wp2_with fail
  refine (strings_index _ _ _).mono ?_
  rintro e w1 ⟨rfl, rfl⟩
  have h : Lib.indexByte (⟨#[48, 49, 50, 51, 52, 53, 54, 55, 56, 57, 97, 98, 99, 100, 101, 102]⟩ : ByteArray).data.toList ((x.toNat : Int).toNat.toUInt8) = nb x := by
    rw [← nb_index]; simp
  rw [h]
  go_wp2_with fail
  go_ret
  exact ⟨rfl, rfl⟩
theorem digit_any (n : Int) (w : World) : Calls Try.prog 41 #[.int .u8 n] w fun e w' => e = .returned (.bool (decide (48 ≤ n ∧ n ≤ 57))) ∧ w = w' := by
  by_cases h1 : 48 ≤ n
  · by_cases h2 : n ≤ 57
    · go_enter Try.func41, Try.ntmps41
      go_wp2_with fail
      go_ret
      exact ⟨by simp [h1, h2], rfl⟩
    · go_enter Try.func41, Try.ntmps41
      go_wp2_with fail
      go_ret
      exact ⟨by simp [h1, h2], rfl⟩
  · go_enter Try.func41, Try.ntmps41
    go_wp2_with fail
    go_ret
    exact ⟨by simp; omega, rfl⟩
theorem nib_any (n : Int) (w : World) (h0 : 0 ≤ n) (hn : n < 256) : Calls Try.prog 34 #[.int .u8 n] w fun e w' => e = .returned (.int .i64 (nibI n)) ∧ w = w' := by
  by_cases hd : 48 ≤ n ∧ n ≤ 57
  · have hw : IntKind.i64.wrap (n - 48) = n - 48 := IntWalk.i64_in _ (by omega)
    have hw2 : IntKind.i64.wrap n = n := IntWalk.i64_in _ (by omega)
    go_enter Try.func34, Try.ntmps34
    go_wp2_with fail
    refine (digit_any _ _).mono ?_
    rintro e w1 ⟨rfl, rfl⟩
    simp only [hd, and_self, decide_true]
    go_wp2_with fail
    go_ret
    exact ⟨by simp [nibI, hd], rfl⟩
  · by_cases ha : 97 ≤ n
    · by_cases hf : n ≤ 102
      · have hw : IntKind.i64.wrap (n - 87) = n - 87 := IntWalk.i64_in _ (by omega)
        have hw2 : IntKind.i64.wrap n = n := IntWalk.i64_in _ (by omega)
        go_enter Try.func34, Try.ntmps34
        go_wp2_with fail
        refine (digit_any _ _).mono ?_
        rintro e w1 ⟨rfl, rfl⟩
        simp only [hd, decide_false]
        go_wp2_with fail
        go_ret
        exact ⟨by simp [nibI, hd, ha, hf], rfl⟩
      · go_enter Try.func34, Try.ntmps34
        go_wp2_with fail
        refine (digit_any _ _).mono ?_
        rintro e w1 ⟨rfl, rfl⟩
        simp only [hd, decide_false]
        go_wp2_with fail
        go_ret
        exact ⟨by simp [nibI, hd]; intros; omega, rfl⟩
    · go_enter Try.func34, Try.ntmps34
      go_wp2_with fail
      refine (digit_any _ _).mono ?_
      rintro e w1 ⟨rfl, rfl⟩
      simp only [hd, decide_false]
      go_wp2_with fail
      go_ret
      exact ⟨by simp [nibI, hd]; intros; omega, rfl⟩
theorem nib8 (x : UInt8) (w : World) : Calls Try.prog 34 #[Proofs.Ytndcofoilglpjaa.u8 x] w fun e w' => e = .returned (.int .i64 (nb x)) ∧ w = w' :=
  nib_any _ _ (by omega) (by have := x.toNat_lt; omega)

theorem run_ixs_at (s : ByteArray) (i : Nat) (h : i < s.size) (w : World) : (ixs 9 (.string s) (.int .i64 (i : Int))).run Try.prog w = .ok (Proofs.Ytndcofoilglpjaa.u8 (s.data.toList.getD i 0)) w := by
  unfold ixs
  rw [run_index_string _ _ _ _ _ Try.underlying9, dif_pos ⟨by omega, by omega⟩]
  have h' : i < s.data.toList.length := h
  have e : s.data.toList.getD i 0 = s[i] := by rw [List.getD_eq_getElem?_getD, List.getElem?_eq_getElem h']; rfl
  rw [e]; rfl

def okP (l : List UInt8) (k : Nat) : Prop := 0 ≤ nb (l.getD (2 * k) 0) ∧ 0 ≤ nb (l.getD (2 * k + 1) 0)
def byP (l : List UInt8) (k : Nat) : UInt8 := UInt8.ofNat ((nb (l.getD (2 * k) 0)).toNat * 16 + (nb (l.getD (2 * k + 1) 0)).toNat)
def upTo (l : List UInt8) (k : Nat) : List UInt8 := (List.range k).map (byP l)
@[simp] theorem upTo_length (l : List UInt8) (k : Nat) : (upTo l k).length = k := by simp [upTo]
theorem upTo_succ (l : List UInt8) (k : Nat) : upTo l (k + 1) = upTo l k ++ [byP l k] := by simp [upTo, List.range_succ]
/-- The text is in hexadecimal. -/
def IsHex (l : List UInt8) : Prop := l.length % 2 = 0 ∧ ∀ k, 2 * k < l.length → okP l k
theorem or_nib (h l : Int) (h0 : 0 ≤ h) (h1 : h < 16) (l0 : 0 ≤ l) (l1 : l < 16) : Go.bits BinOp.or IntKind.i64 (wrap64 (h * 16)) l % 256 = h * 16 + l := by
  have key : ∀ a b : Fin 16, Go.bits BinOp.or IntKind.i64 (wrap64 ((a.1 : Int) * 16)) (b.1 : Int) % 256 = (a.1 : Int) * 16 + (b.1 : Int) := by decide +kernel
  have := key ⟨h.toNat, by omega⟩ ⟨l.toNat, by omega⟩
  simp only at this
  rwa [Int.toNat_of_nonneg h0, Int.toNat_of_nonneg l0] at this
theorem isHex_dec (l : List UInt8) : IsHex l ∨ ¬ IsHex l := Classical.em _

set_option maxHeartbeats 4000000 in
theorem unhex_any (s : ByteArray) (w : World) (hl : s.size ≤ 100000) :
    Calls Try.prog 33 #[.string s] w fun e w' =>
      ((∃ A c, IsHex s.data.toList ∧ e = .returned (.tuple #[.slice A (s.size / 2) c, .int .i64 0]) ∧ w'.ownsRow w.heap.size 5 1 (.slice A (s.size / 2) c) (s.size / 2) (bs (upTo s.data.toList (s.size / 2)))) ∨
       (¬ IsHex s.data.toList ∧ e = .returned (.tuple #[.slice none 0 0, .int .i64 3]))) ∧ Fr0 w w' := by
  have hlen : s.data.toList.length = s.size := rfl
  obtain ⟨l, hll⟩ : ∃ l, l = s.data.toList := ⟨_, rfl⟩
  have HLEN := Lib.hid hlen
  have HLL := Lib.hid hll
  by_cases hodd : s.size % 2 = 0
  · have ho : ((s.size : Int) % 2) = 0 := by omega
    clear hlen
    rw [← hll]
    clear hll
    go_enter Try.func33, Try.ntmps33
    go_wp2_with fail
    go_loopw [4, 6] (fun vv iv wr => ∃ k : Nat, 2 * k ≤ s.size ∧ iv = .int .i64 ((2 * k : Nat) : Int) ∧ (∀ j, j < k → okP l j) ∧ wr.ownsRow w.heap.size 5 1 vv k (bs (upTo l k)) ∧ Fr0 w wr) (fun _ iv _ => s.size + 1 - (intOf iv).toNat)
    case atStart => exact ⟨0, by omega, rfl, fun j hj => by omega, own_nil8 _ _, Fr.refl _ _⟩
    case round =>
      obtain ⟨k, hk, rfl, hok, hown, hf⟩ := hrel
      clear ho
      obtain ⟨Ar, cr, rfl, hc1, hc2⟩ := own_form hown
      by_cases hlt : 2 * k < s.size
      · have hix1 := run_ixs_at s (2 * k) (by omega)
        have hix2 := run_ixs_at s (2 * k + 1) (by omega)
        rw [← HLL.out] at hix1 hix2
        obtain ⟨i, hi⟩ : ∃ i, i = 2 * k := ⟨_, rfl⟩
        rw [← hi] at hix1 hix2 hlt hk ⊢
        have z0 : (i : Int) < (s.size : Int) := by omega
        have hw1 : IntKind.i64.wrap ((i : Int) + 1) = (i : Int) + 1 := IntWalk.i64_in _ (by omega)
        rw [show ((i + 1 : Nat) : Int) = (i : Int) + 1 by omega] at hix2
        obtain ⟨a, ha⟩ : ∃ a, a = l.getD i 0 := ⟨_, rfl⟩
        obtain ⟨b, hb⟩ : ∃ b, b = l.getD (i + 1) 0 := ⟨_, rfl⟩
        rw [← ha] at hix1
        rw [← hb] at hix2
        have HI := Lib.hid hi
        have HA := Lib.hid ha
        have HB := Lib.hid hb
        have HOK := Lib.hid hok
        have HO := Lib.hid hown
        have HF := Lib.hid hf
        clear hi ha hb hok hown hf
        have hrd : ¬ (0 ≤ nb a ∧ 0 ≤ nb b) → ¬ IsHex l := fun hn h => by
          have := h.2 k (by have := HI.out; have := HLEN.out; rw [← HLL.out] at this; omega)
          unfold okP at this
          rw [← HI.out, ← HA.out, ← HB.out] at this
          exact hn this
        by_cases ha0 : nb a < 0
        · have HN := Lib.hid (hrd (by omega))
          clear hrd
          obtain ⟨x, hx⟩ : ∃ x, x = nb a := ⟨_, rfl⟩
          go_wp2_with fail
          go_quiet ((go_at_call 39; exact q1 (value_any _ _)))
          go_wp2_with fail
          go_ret2
          exact ⟨.inr ⟨HN.out, rfl⟩, HF.out.trans ((Fr.refl _ _).drewN _)⟩
        · by_cases hb0 : nb b < 0
          · have HN := Lib.hid (hrd (by omega))
            clear hrd
            have ha1 : 0 ≤ nb a := by omega
            go_wp2_with fail
            go_quiet ((go_at_call 39; exact q1 (value_any _ _)))
            go_wp2_with fail
            go_ret2
            exact ⟨.inr ⟨HN.out, rfl⟩, HF.out.trans ((Fr.refl _ _).drewN _)⟩
          · have ha1 : 0 ≤ nb a := by omega
            have hb1 : 0 ≤ nb b := by omega
            have hby := or_nib (nb a) (nb b) ha1 (nibI_lt _) hb1 (nibI_lt _)
            obtain ⟨x, hx⟩ : ∃ x, x = byP l k := ⟨_, rfl⟩
            have hxx : (x.toNat : Int) = nb a * 16 + nb b := by
              rw [hx, byP, ← HI.out, ← HA.out, ← HB.out, UInt8.toNat_ofNat']
              have := nibI_lt (a.toNat : Int); have := nibI_lt (b.toNat : Int)
              unfold nb at ha1 hb1 ⊢
              omega
            have hbsl : ∀ w, (bsl 22 1 #[(0, .int .u8 (Go.bits BinOp.or IntKind.i64 (wrap64 (nb a * 16)) (nb b) % 256))]).run Try.prog w = .ok (.slice (some ⟨w.heap.size, 0, none⟩) 1 1) (w.alloc (.cells #[Proofs.Ytndcofoilglpjaa.u8 x] 5)) := fun w => by
              rw [hby, ← hxx]; exact run_sl_u8_1 w x
            have HX := Lib.hid hx
            clear hrd hby hx hxx
            go_wp2_with fail
            go_quiet ((go_at_call 39; exact q1 (value_any _ _)))
            obtain ⟨wq, hwq⟩ : ∃ wq, wq = wr.drewN nq := ⟨_, rfl⟩
            have hfq : Fr0 w wq := by rw [hwq]; exact HF.out.drewN nq
            have hoq : wq.ownsRow w.heap.size 5 1 (.slice Ar k cr) (upTo l k).length (bs (upTo l k)) := by rw [hwq, upTo_length]; exact own_fr0 HO.out ((Fr.refl _ _).drewN nq)
            rw [← hwq]
            obtain ⟨A2, c2, w2, hrun2, hown2, hG2, hge2, -⟩ := app_by (wq.alloc (.cells #[Proofs.Ytndcofoilglpjaa.u8 x] 5)) (own_fr0 hoq ((Fr.refl _ _).alloc _)) (sl_bs1 wq x) (by have := HI.out; rw [upTo_length]; simp only [List.length_singleton]; omega) (by have := hfq.size; simp; omega)
            have hF2 : Fr0 w w2 := (hfq.alloc _).then_ hG2 (fun i hi hk => by have := hge2 i hk; omega)
            rw [show upTo l k ++ [x] = upTo l (k + 1) by rw [HX.out, upTo_succ]] at hrun2 hown2
            rw [upTo_length] at hrun2 hown2
            have HO2 := Lib.hid hown2
            have HF2 := Lib.hid hF2
            clear hwq hfq hoq hG2 hge2 hown2 hF2
            go_wp2_with fail
            clear hrun2 hbsl hix1 hix2 hw1
            go_roundw
            case rel =>
              have hok2 : ∀ j, j < k + 1 → okP l j := fun j hj => by
                rcases Nat.lt_or_ge j k with h | h
                · exact HOK.out j h
                · have : j = k := by omega
                  subst this
                  unfold okP; rw [← HI.out, ← HA.out, ← HB.out]; exact ⟨ha1, hb1⟩
              have := HI.out
              first
              | exact ⟨k + 1, by omega, by simp; omega, hok2, HO2.out, HF2.out⟩
              | ((repeat apply Exists.intro); exact ⟨⟨k + 1, by omega, by simp; omega, hok2, HO2.out, HF2.out⟩, rfl⟩)
            case measure => simp [intOf]; omega
      · have hks : s.size / 2 = k := by omega
        have hih : IsHex l := ⟨by have := HLEN.out; rw [← HLL.out] at this; omega, fun j hj => hok j (by have := HLEN.out; rw [← HLL.out] at this; omega)⟩
        have HIH := Lib.hid hih
        have HO := Lib.hid hown
        have HF := Lib.hid hf
        have HK := Lib.hid hks
        obtain ⟨i, hi⟩ : ∃ i, i = 2 * k := ⟨_, rfl⟩
        rw [← hi] at hlt ⊢
        have z0 : ¬ (i : Int) < (s.size : Int) := by omega
        clear hown hf hih hok hks hi
        go_wp2_with fail
        go_ret2
        first | refine ⟨.inl ⟨Ar, cr, HIH.out, ?_, ?_⟩, HF.out⟩ | refine ⟨.inl ⟨HIH.out, Ar, cr, ?_, ?_⟩, HF.out⟩
        · rw [HK.out]; rfl
        · rw [HK.out]; exact HO.out
  · have ho : ((s.size : Int) % 2) = 1 := by omega
    have hnh : ¬ IsHex s.data.toList := fun h => hodd (by have := h.1; rwa [hlen] at this)
    clear hlen
    go_enter Try.func33, Try.ntmps33
    go_wp2_with fail
    go_ret2
    exact ⟨.inr ⟨hnh, rfl⟩, Fr.refl _ _⟩
end Go.Proofs.Ytndcofoilglpjaa
