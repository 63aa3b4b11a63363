/- SHA-256: the program's Sum of a Hash; Sum, SumHalf of bytes. No condition beyond the lengths that are named. -/
import Derived.Test.YtnholkjgdpapbaaShaD
namespace Go.Proofs.Ytnholkjgdpapbaa
set_option linter.unusedVariables false
set_option linter.unusedSimpArgs false
set_option maxRecDepth 10000
open Go.RowKit
attribute [local go_sem ↓] Go.wp_at_zero Go.wp_at_succ

/-- What stands behind the message while zeros are appended, and while the length is. -/
def pz (j : Nat) : List UInt8 := 128 :: List.replicate j 0
theorem pz_length (j : Nat) : (pz j).length = j + 1 := by simp [pz]
theorem pz_succ (j : Nat) : pz (j + 1) = pz j ++ [0] := by simp only [pz, List.replicate_succ', List.cons_append]
def pl (n m : Nat) : List UInt8 := pz (zs n) ++ (len8 n).take m
theorem pl_length (n m : Nat) (h : m ≤ 8) : (pl n m).length = zs n + 1 + m := by simp [pl, pz_length, len8_length, Nat.min_eq_left h]
theorem pl_zero (n : Nat) : pl n 0 = pz (zs n) := by simp [pl]
theorem pl_all (n : Nat) : pl n 8 = tail8 n := by
  unfold pl tail8 pz
  rw [List.take_of_length_le (by rw [len8_length]; omega), List.cons_append]
theorem len8_get (n m : Nat) (h : m < 8) : (len8 n)[m]'(by rw [len8_length]; exact h) = UInt8.ofNat (n * 8 / 256 ^ (7 - m)) := by
  rcases (show m = 0 ∨ m = 1 ∨ m = 2 ∨ m = 3 ∨ m = 4 ∨ m = 5 ∨ m = 6 ∨ m = 7 by omega) with rfl | rfl | rfl | rfl | rfl | rfl | rfl | rfl <;> rfl
theorem pl_succ (n m : Nat) (h : m < 8) : pl n (m + 1) = pl n m ++ [UInt8.ofNat (n * 8 / 256 ^ (7 - m))] := by
  unfold pl
  rw [List.append_assoc, List.take_succ_eq_append_getElem (by rw [len8_length]; exact h), len8_get n m h]
theorem len_byte (n k : Nat) : Value.int .u8 ((n : Int) * 8 / 2 ^ (8 * k) % 256) = u8 (UInt8.ofNat (n * 8 / 256 ^ k)) := by
  have h : (2 : Int) ^ (8 * k) = ((256 ^ k : Nat) : Int) := by rw [Int.pow_mul]; simp
  unfold u8
  congr 1
  rw [h, UInt8.toNat_ofNat']
  have : (n : Int) * 8 / ((256 ^ k : Nat) : Int) = ((n * 8 / 256 ^ k : Nat) : Int) := by simp
  rw [this]
  omega
theorem zs_lt (n : Nat) : zs n < 64 := by unfold zs; omega
theorem zs_go (n j : Nat) (h : j < zs n) : (n + (j + 1)) % 64 ≠ 56 := by unfold zs at h; omega
theorem zs_end (n : Nat) : (n + (zs n + 1)) % 64 = 56 := by unfold zs; omega

/-- A digest's cells, filled up to place k. -/
def dfill (o : List UInt8) (k : Nat) : Array Value := (bs (o.take k ++ List.replicate (32 - k) 0)).toArray
theorem dfill_size (o : List UInt8) (k : Nat) (ho : o.length = 32) (hk : k ≤ 32) : (dfill o k).size = 32 := by simp [dfill, ho]; omega
theorem dfill_get (o : List UInt8) (k j : Nat) (ho : o.length = 32) (hk : k ≤ 32) (hj : j < 32) : ∃ x, (dfill o k)[j]? = some (u8 x) := by
  have hl : (o.take k ++ List.replicate (32 - k) 0).length = 32 := by simp [ho]; omega
  refine ⟨(o.take k ++ List.replicate (32 - k) (0 : UInt8))[j]'(by omega), ?_⟩
  unfold dfill bs
  rw [List.getElem?_toArray, List.getElem?_map, List.getElem?_eq_getElem (by omega)]; rfl
theorem dfill_step (o : List UInt8) (k : Nat) (ho : o.length = 32) (hk : k < 32) : (dfill o k).setIfInBounds k (u8 (o.getD k 0)) = dfill o (k + 1) := by
  have h1 : (o.take k).length = k := by simp [ho]; omega
  have e : o.getD k 0 = o[k]'(by omega) := by simp [List.getD, (by omega : k < o.length)]
  unfold dfill bs
  rw [List.setIfInBounds_toArray, ← List.map_set, List.set_append_right _ _ (by omega), h1, Nat.sub_self, show 32 - k = (32 - (k + 1)) + 1 by omega, List.replicate_succ, List.set_cons_zero, List.take_succ_eq_append_getElem (by omega : k < o.length), e, List.append_assoc, List.singleton_append]
def stW (s : St) : List UInt32 := [s.a, s.b, s.c, s.d, s.e, s.f, s.g, s.h]
theorem outS_get (s : St) (i : Nat) (h : i < 8) : (outS s).getD (4 * i) 0 = ((stW s).getD i 0 >>> 24).toUInt8 ∧ (outS s).getD (4 * i + 1) 0 = ((stW s).getD i 0 >>> 16).toUInt8 ∧ (outS s).getD (4 * i + 2) 0 = ((stW s).getD i 0 >>> 8).toUInt8 ∧ (outS s).getD (4 * i + 3) 0 = ((stW s).getD i 0).toUInt8 := by
  rcases (show i = 0 ∨ i = 1 ∨ i = 2 ∨ i = 3 ∨ i = 4 ∨ i = 5 ∨ i = 6 ∨ i = 7 by omega) with rfl | rfl | rfl | rfl | rfl | rfl | rfl | rfl <;> exact ⟨rfl, rfl, rfl, rfl⟩
@[go_sem ↓] theorem ex_ix_8 (ρ : Operand → Value) (dst : Option Tmp) (x y : Operand) (ty : TypeId) (pos : String) (aft : Array Edge) (gd : Option (Nat × Bool)) :
    execOp ρ ⟨dst, .index 105 x y, ty, pos, aft, gd⟩ = (do pure (.value (← ix 105 (ρ x) (ρ y)))) := rfl
@[go_sem] theorem run_bd_8 (w : World) (a b c d e f g h : UInt32) : (bd 105 #[(0, u32 a), (1, u32 b), (2, u32 c), (3, u32 d), (4, u32 e), (5, u32 f), (6, u32 g), (7, u32 h)]).run Try.prog w = .ok (.agg #[u32 a, u32 b, u32 c, u32 d, u32 e, u32 f, u32 g, u32 h]) w := by kernel_rfl
theorem run_ix_8 (s : St) (k : Nat) (hk : k < 8) (w : World) : (ix 105 (.agg (stC s)) (.int .i64 (k : Int))).run Try.prog w = .ok (u32 ((stW s).getD k 0)) w := by
  refine run_ix w Try.underlying105 Try.underlying80 size_u32 (stC s) k _ hk ?_
  rcases (show k = 0 ∨ k = 1 ∨ k = 2 ∨ k = 3 ∨ k = 4 ∨ k = 5 ∨ k = 6 ∨ k = 7 by omega) with rfl | rfl | rfl | rfl | rfl | rfl | rfl | rfl <;> rfl

set_option maxHeartbeats 4000000 in
set_option maxRecDepth 10000 in
theorem hsum_any (g : Nat) (l : List UInt8) (w : World) (h : HashAt w g l) (hl : l.length ≤ 1000000000) :
    Calls Try.prog 58 #[hptr g] w fun e w' => e = .returned (.agg (bs (sumB l)).toArray) ∧ Fr0 w w' := by
  have hz := Blk.new w 103 (bs (List.replicate 32 0)).toArray
  have H := Lib.hid (h.fr0 ((Fr.refl _ w).alloc (.cells (bs (List.replicate 32 0)).toArray 103)))
  have HZ := Lib.hid hz
  clear hz h
  go_enter Try.func58, Try.ntmps58
  go_wp2_with fail
  refine (hclone_any g l _ _ H.out).mono ?_
  rintro e w1 ⟨g1, rfl, hg1, hH, hF⟩
  have H1 := Lib.hid hH.n
  have HF1 := Lib.hid (((Fr.refl (fun _ => False) w).alloc _).trans hF)
  have HZ1 := Lib.hid (HZ.out.fr hF (fun h => h))
  have HG1 := Lib.hid hg1
  clear hH hF hg1
  have hzl := zs_lt l.length
  go_wp2_with fail
  go_loopw [4] (fun vv wr => ∃ j : Nat, j ≤ zs l.length ∧ wr.ownsRow w1.heap.size 5 1 vv (pz j).length (bs (pz j)) ∧ Fr0 w1 wr) (fun vv _ => match vv with | .slice _ n _ => 100 - n | _ => 0)
  case atStart => exact ⟨0, by omega, own_bs1 w1 128, (Fr.refl _ _).alloc _⟩
  case round =>
    obtain ⟨j, hj, hown, hf⟩ := hrel
    obtain ⟨Ap, cp, rfl, hp1, hp2⟩ := own_form hown
    have hH := H1.out.fr0 hf
    have hH' := hH
    obtain ⟨v, hB, -⟩ := hH'
    have hc9 := hB.cell 9
    simp at hc9
    have HHR := Lib.hid hH
    have hsum : IntKind.i64.wrap ((l.length : Int) + ((pz j).length : Int)) = (l.length : Int) + ((pz j).length : Int) := IntWalk.i64_in _ (by rw [pz_length]; omega)
    have hpl : (pz j).length = j + 1 := pz_length j
    clear hB hH
    by_cases hlt : j < zs l.length
    · obtain ⟨A2, c2, w2, hrun2, hown2, hG2, hge2, -⟩ := app_by (wr.alloc (.cells #[Proofs.Ytnholkjgdpapbaa.u8 0] 5)) (own_fr0 hown ((Fr.refl _ _).alloc _)) (sl_bs1 wr 0) (by simp only [List.length_singleton]; omega) (by have := hf.size; simp; omega)
      have hF2 : Fr0 w1 w2 := (hf.alloc _).then_ hG2 (fun i hi hk => by have := hge2 i hk; omega)
      rw [← pz_succ] at hrun2 hown2
      have hne := zs_go l.length j hlt
      have ht1 : ((((l.length : Int) + ((pz j).length : Int)) % 64) != 56) = true := by rw [hpl]; simp; omega
      have HO := Lib.hid hown2
      have HF := Lib.hid hF2
      have HPL := Lib.hid hpl
      clear hown hown2 hG2 hge2 hF2 hne hpl
      go_wp2_with fail
      go_roundw
      case rel => exact ⟨j + 1, by omega, HO.out, HF.out⟩
      case measure => simp [pz_length]; omega
    · have hjz : j = zs l.length := by omega
      subst hjz
      have hne := zs_end l.length
      have ht1 : ((((l.length : Int) + ((pz (zs l.length)).length : Int)) % 64) != 56) = false := by rw [hpl]; simp; omega
      have HO := Lib.hid hown
      have HF := Lib.hid hf
      have HPL := Lib.hid hpl
      clear hown hf hne hpl
      go_wp2_with fail
      clear ht1 hsum hc9 hp1 hp2
      go_loopw [4, 5] (fun vv iv ws => ∃ m : Nat, m ≤ 8 ∧ iv = .int .i64 (7 - (m : Int)) ∧ ws.ownsRow w1.heap.size 5 1 vv (pl l.length m).length (bs (pl l.length m)) ∧ Fr0 w1 ws) (fun _ iv _ => (intOf iv + 1).toNat)
      case atStart => exact ⟨0, by omega, rfl, by rw [pl_zero]; exact HO.out, HF.out⟩
      case round =>
        obtain ⟨m, hm, rfl, hown, hf⟩ := hrel
        obtain ⟨Aq, cq, rfl, hq1, hq2⟩ := own_form hown
        obtain ⟨v2, hB2, -⟩ := H1.out.fr0 hf
        have hc9 := hB2.cell 9
        simp at hc9
        clear hB2
        by_cases hlt : m < 8
        · have z1 : (0 : Int) ≤ 7 - (m : Int) := by omega
          obtain ⟨x, hx⟩ : ∃ x, x = UInt8.ofNat (l.length * 8 / 256 ^ (7 - m)) := ⟨_, rfl⟩
          have hby := len_byte l.length (7 - m)
          rw [← hx] at hby
          obtain ⟨A2, c2, w2, hrun2, hown2, hG2, hge2, -⟩ := app_by (wr.alloc (.cells #[Proofs.Ytnholkjgdpapbaa.u8 x] 5)) (own_fr0 hown ((Fr.refl _ _).alloc _)) (sl_bs1 wr x) (by rw [pl_length _ _ hm]; simp only [List.length_singleton]; omega) (by have := hf.size; simp; omega)
          have hF2 : Fr0 w1 w2 := (hf.alloc _).then_ hG2 (fun i hi hk => by have := hge2 i hk; omega)
          have hps := pl_succ l.length m hlt
          rw [← hx] at hps
          rw [← hps] at hrun2 hown2
          have HO2 := Lib.hid hown2
          have HF2 := Lib.hid hF2
          clear hown hown2 hG2 hge2 hF2 hx hps
          go_wp2_with fail
          go_roundw
          case rel => exact ⟨m + 1, by omega, by congr 1; omega, HO2.out, HF2.out⟩
          case measure => simp [intOf]; omega
        · have hm8 : m = 8 := by omega
          subst hm8
          have HS8 := Lib.hid (show Sl wr 5 1 (.slice Aq (tail8 l.length).length cq) (tail8 l.length).length (bs (tail8 l.length)) from by rw [← pl_all]; exact Sl.of_own hown)
          have HF8 := Lib.hid hf
          rw [pl_all]
          clear hown hf hq1
          go_wp2_with fail
          refine (take_any g1 _ l (tail8 l.length) _ _ _ (H1.out.fr0 HF8.out) HS8.out.rd (by rw [tail8_length]; omega)).mono ?_
          rintro e w5 ⟨rfl, hH5, hF5⟩
          obtain ⟨v5, hB5, -⟩ := hH5.n
          obtain ⟨s, hs⟩ : ∃ s, s = stAt (l ++ tail8 l.length) := ⟨_, rfl⟩
          rw [← hs] at hB5
          have hlt5 := hB5.lt
          have hl5 := hB5.ldA 0 8 (by simp)
          have hl5a := (hB5.alloc (.cells (dfill (outS s) 0) 103)).ldA 0 8 (by simp)
          have HZ5 := Lib.hid ((HZ1.out.fr HF8.out (fun h => h)).fr hF5 (by have := HG1.out; simp at this; omega))
          have HF5 := Lib.hid (show Fr0 w w5 from (HF1.out.trans HF8.out).then_ (S := fun _ => False) hF5 (fun i hi e => by have := HG1.out; simp at this; omega))
          have HSS := Lib.hid hs
          have HB5 := Lib.hid hB5
          clear hF5 hs hB5
          have ho := outS_length s
          obtain ⟨o, hoo⟩ : ∃ o, o = outS s := ⟨_, rfl⟩
          have hixx := fun k hk w => run_ix_8 s k hk w
          have HIX := Lib.hid hixx
          have hog := fun i h => outS_get s i h
          rw [← hoo] at ho hl5a
          have HOG : Hid (∀ (i : Nat), i < 8 → o.getD (4 * i) 0 = ((stW s).getD i 0 >>> 24).toUInt8 ∧ o.getD (4 * i + 1) 0 = ((stW s).getD i 0 >>> 16).toUInt8 ∧ o.getD (4 * i + 2) 0 = ((stW s).getD i 0 >>> 8).toUInt8 ∧ o.getD (4 * i + 3) 0 = ((stW s).getD i 0).toUInt8) := Lib.hid (by rw [hoo]; exact hog)
          have HOO := Lib.hid hoo
          have HOL := Lib.hid ho
          clear hixx hog ho hoo
          go_wp2_with fail
          clear hl5a hl5
          go_loopw [69] (fun iv ws => ∃ k : Nat, k ≤ 8 ∧ iv = .int .i64 k ∧ Blk ws w5.heap.size 103 (dfill o (4 * k)) ∧ Fr0 w5 ws) (fun iv _ => 8 - (intOf iv).toNat)
          case atStart => exact ⟨0, by omega, rfl, (Blk.new w5 103 (dfill o 0)).alloc _, ((Fr.refl _ _).alloc _).alloc _⟩
          case round =>
            obtain ⟨k, hk, rfl, hD, hF⟩ := hrel
            by_cases hlt8 : k < 8
            · have hix := HIX.out k hlt8
              obtain ⟨y0, hy0⟩ := dfill_get o (4 * k) (4 * k) HOL.out (by omega) (by omega)
              obtain ⟨y1, hy1⟩ := dfill_get o (4 * k) (4 * k + 1) HOL.out (by omega) (by omega)
              obtain ⟨y2, hy2⟩ := dfill_get o (4 * k) (4 * k + 2) HOL.out (by omega) (by omega)
              obtain ⟨y3, hy3⟩ := dfill_get o (4 * k) (4 * k + 3) HOL.out (by omega) (by omega)
              have c0 := (hD.cell (4 * k)).trans hy0
              have c1 := (hD.cell (4 * k + 1)).trans hy1
              have c2 := (hD.cell (4 * k + 2)).trans hy2
              have c3 := (hD.cell (4 * k + 3)).trans hy3
              have f0 := hD.frozen (4 * k)
              have f1 := hD.frozen (4 * k + 1)
              have f2 := hD.frozen (4 * k + 2)
              have f3 := hD.frozen (4 * k + 3)
              have HD := Lib.hid hD
              have HF := Lib.hid hF
              clear hy0 hy1 hy2 hy3 hD hF
              go_wp2_with fail
              go_roundw
              case rel =>
                obtain ⟨e0, e1, e2, e3⟩ := HOG.out k hlt8
                have hb := (((HD.out.set_ (4 * k) (Proofs.Ytnholkjgdpapbaa.u8 ((stW s).getD k 0 >>> 24).toUInt8)).set_ (4 * k + 1) (Proofs.Ytnholkjgdpapbaa.u8 ((stW s).getD k 0 >>> 16).toUInt8)).set_ (4 * k + 2) (Proofs.Ytnholkjgdpapbaa.u8 ((stW s).getD k 0 >>> 8).toUInt8)).set_ (4 * k + 3) (Proofs.Ytnholkjgdpapbaa.u8 ((stW s).getD k 0).toUInt8)
                have hd : ((((dfill o (4 * k)).setIfInBounds (4 * k) (Proofs.Ytnholkjgdpapbaa.u8 ((stW s).getD k 0 >>> 24).toUInt8)).setIfInBounds (4 * k + 1) (Proofs.Ytnholkjgdpapbaa.u8 ((stW s).getD k 0 >>> 16).toUInt8)).setIfInBounds (4 * k + 2) (Proofs.Ytnholkjgdpapbaa.u8 ((stW s).getD k 0 >>> 8).toUInt8)).setIfInBounds (4 * k + 3) (Proofs.Ytnholkjgdpapbaa.u8 ((stW s).getD k 0).toUInt8) = dfill o (4 * (k + 1)) := by
                  rw [← e0, ← e1, ← e2, ← e3, dfill_step o (4 * k) HOL.out (by omega), dfill_step o (4 * k + 1) HOL.out (by omega), dfill_step o (4 * k + 1 + 1) HOL.out (by omega), dfill_step o (4 * k + 1 + 1 + 1) HOL.out (by omega)]
                  rfl
                rw [hd] at hb
                refine ⟨k + 1, by omega, by go_num, hb, ?_⟩
                exact (((HF.out.setCell (p := ⟨w5.heap.size, 4 * k, none⟩) (fun h => by dsimp only at h; omega) _).setCell (p := ⟨w5.heap.size, 4 * k + 1, none⟩) (fun h => by dsimp only at h; omega) _).setCell (p := ⟨w5.heap.size, 4 * k + 2, none⟩) (fun h => by dsimp only at h; omega) _).setCell (p := ⟨w5.heap.size, 4 * k + 3, none⟩) (fun h => by dsimp only at h; omega) _
              case measure => simp [intOf]; omega
            · have hk8 : k = 8 := by omega
              subst hk8
              have hdo : dfill o (4 * 8) = (bs o).toArray := by
                unfold dfill
                rw [List.take_of_length_le (by have := HOL.out; omega)]; simp
              rw [hdo] at hD
              have hla := blk_all hD (n := 32) (by simp [HOL.out])
              have hz := HZ5.out.fr hF (fun h => h)
              have hok := hz.okA 0 32 (by simp)
              have hst : ∀ (w : World) (b p : Nat), okA w b p 32 = true → (st 103 (.pointer (some ⟨b, p, none⟩)) (.agg (bs o).toArray)).run Try.prog w = .ok () (putW w b p (bs o).toArray) := fun w b p h => run_st w _ (by rw [info_bulletin_sha256_Digest]; simp [HOL.out]) (by have := bs_one' o; simpa using this) b p (by simpa [HOL.out] using h)
              have HZZ := Lib.hid hz
              have HF := Lib.hid hF
              have HFE := Lib.hid (show Ending.returned (.agg (bs o).toArray) = .returned (.agg (bs (sumB l)).toArray) from by rw [HOO.out, sum_stAt, ← HSS.out])
              clear hD hz hF hdo
              go_wp2_with fail
              refine bodyPost_agg (n := 32) (cs := (bs o).toArray) rfl Try.underlying103 rfl info_bulletin_sha256_Digest (by rfl) ?_ rfl ⟨HFE.out, ?_⟩
              · exact ldA_put HZZ.out _ (by simp [HOL.out]) (by simp)
              · exact (HF5.out.trans HF.out).put (S := fun _ => False) (fun h => by omega) _ _

theorem by_load {w : World} {g : Nat} {t : TypeId} {n : Nat} {l : List UInt8} (h : Blk w g t (bs l).toArray) (hl : l.length = n) : ldA w g 0 n = some (bs l).toArray := blk_all h (by simp [hl])
theorem dig_st (y : By 32) (w : World) (b p : Nat) (h : okA w b p 32 = true) : (st 103 (.pointer (some ⟨b, p, none⟩)) (.agg (bs y.1).toArray)).run Try.prog w = .ok () (putW w b p (bs y.1).toArray) :=
  run_st w _ (by rw [info_bulletin_sha256_Digest]; simp [y.2]) (by have := bs_one' y.1; simpa using this) b p (by simpa [y.2] using h)
theorem hsum_nil (w : World) : Calls Try.prog 58 #[.pointer none] w fun e w' => e = .returned (.agg (bs (List.replicate 32 0)).toArray) ∧ Fr0 w w' := by
  have hbd : ∀ w, (bd 103 #[]).run Try.prog w = .ok (.agg (bs (List.replicate 32 0)).toArray) w := fun w => by kernel_rfl
  have hst := dig_st ⟨List.replicate 32 0, by simp⟩
  have hz := by_load (n := 32) (Blk.new w 103 (bs (List.replicate 32 0)).toArray) (by simp)
  have hGs : (bs (List.replicate 32 0)).toArray.size = 32 := by simp
  obtain ⟨G, hG⟩ : ∃ G, G = (bs (List.replicate 32 0)).toArray := ⟨_, rfl⟩
  dsimp only at hst
  rw [← hG] at hbd hst hz hGs
  rw [← hG]
  have HZ := Lib.hid hz
  have HG := Lib.hid hG
  clear hz hG
  go_enter Try.func58, Try.ntmps58
  go_wp2_with fail
  refine bodyPost_agg (n := 32) (cs := G) rfl Try.underlying103 rfl info_bulletin_sha256_Digest (by rfl) ?_ rfl ?_
  · exact HZ.out
  · exact ⟨rfl, (Fr.refl _ _).alloc _⟩

/-- The digest of bytes. -/
theorem ssum_any (l : List UInt8) (B : Nat) (v : Value) (w : World) (hs : Rd w B v l) (hl : l.length ≤ 1000000000) :
    Calls Try.prog 51 #[v] w fun e w' => e = .returned (.agg (bs (sumB l)).toArray) ∧ Fr0 w w' := by
  obtain ⟨A, c, rfl, h1, h2⟩ := hs.form
  have HS := Lib.hid (hs.alloc (.cells (bs (List.replicate 32 0)).toArray 103))
  have HZ := Lib.hid (Blk.new w 103 (bs (List.replicate 32 0)).toArray)
  clear hs
  go_enter Try.func51, Try.ntmps51
  go_wp2_with fail
  refine (hnew_any _).mono ?_
  rintro e w1 ⟨g, rfl, hg, hH, hF⟩
  have HH1 : Hid (HashAt w1 g []) := Lib.hid (hH 0).n
  have HS1 := Lib.hid (HS.out.fr0 hF)
  have HZ1 := Lib.hid (HZ.out.fr hF (fun h => h))
  have HG := Lib.hid hg
  have HF1 := Lib.hid (((Fr.refl (fun _ => False) w).alloc _).trans hF)
  clear hH hF hg
  go_wp2_with fail
  refine (write_any g B [] l _ _ HH1.out HS1.out hl (by simp)).mono ?_
  rintro e w2 ⟨rfl, hH, hF⟩
  have HH2 := Lib.hid (show HashAt w2 g l from hH.n)
  have HZ2 := Lib.hid (HZ1.out.fr hF (by have := HG.out; simp at this; omega))
  have HF2 := Lib.hid (show Fr0 w w2 from HF1.out.then_ (S := fun _ => False) hF (fun i hi e => by have := HG.out; simp at this; omega))
  clear hH hF
  go_wp2_with fail
  refine (hsum_any g l _ HH2.out hl).mono ?_
  rintro e w3 ⟨rfl, hF⟩
  have hz := HZ2.out.fr hF (fun h => h)
  have hok := hz.okA 0 32 (by simp)
  have HZ3 := Lib.hid hz
  have HF3 := Lib.hid (HF2.out.trans hF)
  have hst := dig_st (sumY l)
  change ∀ (w : World) (b p : Nat), okA w b p 32 = true → (st 103 (.pointer (some ⟨b, p, none⟩)) (.agg (bs (sumB l)).toArray)).run Try.prog w = .ok () (putW w b p (bs (sumB l)).toArray) at hst
  clear hz hF
  go_wp2_with fail
  refine bodyPost_agg (n := 32) (cs := (bs (sumB l)).toArray) rfl Try.underlying103 rfl info_bulletin_sha256_Digest (by rfl) ?_ rfl ⟨rfl, ?_⟩
  · exact ldA_put HZ3.out _ (by simp [sumB_length]) (by simp)
  · exact HF3.out.put (S := fun _ => False) (fun h => by omega) _ _
end Go.Proofs.Ytnholkjgdpapbaa
