/- Chapter 06: the builder: its state, NewBuilder, Len, Pending, Root. No condition beyond what is named. -/
import Derived.Test.YtnholkjgdpapbaaMkH
namespace Go.Proofs.Ytnholkjgdpapbaa
set_option linter.unusedVariables false
set_option linter.unusedSimpArgs false
set_option maxRecDepth 10000
open Go.RowKit
attribute [local go_sem ↓] Go.wp_at_zero Go.wp_at_succ

/-- Block b is a builder that holds the leaves l. -/
structure Bdr (w : World) (b : Nat) (l : List Nd) : Prop where
  max : l.length ≤ 1024
  is : ∃ cs : Array Value, Blk w b 72 cs ∧ cs.size = 177 ∧ cs[176]? = some (.int .i64 (l.length : Int)) ∧
    ∀ h, h < 11 → Mk.bit l.length h = true → cs.extract (h * 16) (h * 16 + 16) = ((eB 16).f (Mk.pnode jn l l.length h)).toArray
theorem Bdr.lt {w : World} {b : Nat} {l : List Nd} (h : Bdr w b l) : b < w.heap.size := by
  obtain ⟨_, cs, hB, _⟩ := h; exact hB.lt
theorem Bdr.fr {S : Nat → Prop} {w w' : World} {b : Nat} {l : List Nd} (h : Bdr w b l) (hf : Fr S w w') (hs : ¬ S b) : Bdr w' b l := by
  obtain ⟨h1, cs, hB, h2⟩ := h
  exact ⟨h1, cs, hB.fr hf hs, h2⟩
theorem Bdr.fr0 {w w' : World} {b : Nat} {l : List Nd} (h : Bdr w b l) (hf : Fr0 w w') : Bdr w' b l := h.fr hf (fun h => h)
theorem Bdr.cnt {w : World} {b : Nat} {l : List Nd} (h : Bdr w b l) : w.cell? ⟨b, 176, none⟩ = some (.int .i64 (l.length : Int)) := by
  obtain ⟨_, cs, hB, _, h3, _⟩ := h
  rw [hB.cell]; exact h3
theorem Bdr.frz {w : World} {b : Nat} {l : List Nd} (h : Bdr w b l) : w.frozen? ⟨b, 176, none⟩ = false := by
  obtain ⟨_, cs, hB, _⟩ := h
  exact hB.frozen 176
theorem Bdr.oks {w : World} {b : Nat} {l : List Nd} (h : Bdr w b l) (k : Nat) (hk : k < 11) : okA w b (k * 16) 16 = true := by
  obtain ⟨_, cs, hB, h2, _⟩ := h
  exact hB.okA _ _ (by omega)
theorem Bdr.row {w : World} {b : Nat} {l : List Nd} (h : Bdr w b l) (k : Nat) (hk : k < 11) (hb : Mk.bit l.length k = true) : (eB 16).at_ w b (k * 16) = some (Mk.pnode jn l l.length k) := by
  obtain ⟨_, cs, hB, h2, _, h4⟩ := h
  apply (eB 16).at_of
  rw [hB.ldA _ _ (by omega), h4 k hk hb]
theorem bit_zero (h : Nat) : Mk.bit 0 h = false := by unfold Mk.bit; simp
theorem Bdr.new (w : World) : Bdr (eBd.new 72 w zBd) w.heap.size [] :=
  ⟨by simp, _, Blk.new w _ _, eBd.size _, by kernel_rfl, fun h _ hb => by rw [show ([] : List Nd).length = 0 from rfl, bit_zero] at hb; cases hb⟩

theorem newb_any (w : World) : Calls Try.prog 28 #[] w fun e w' => e = .returned (.pointer (some ⟨w.heap.size, 0, none⟩)) ∧ Bdr w' w.heap.size [] ∧ Fr0 w w' := by
  go_enter Try.func28, Try.ntmps28
  go_wp2_with fail
  go_ret
  exact ⟨rfl, Bdr.new w, (Fr.refl _ _).newE _ _ _⟩
theorem blen_any (b : Nat) (l : List Nd) (w : World) (h : Bdr w b l) : Calls Try.prog 30 #[.pointer (some ⟨b, 0, none⟩)] w fun e w' => e = .returned (.int .i64 (l.length : Int)) ∧ Fr0 w w' := by
  have hc := h.cnt
  clear h
  go_enter Try.func30, Try.ntmps30
  go_wp2_with fail
  go_ret
  exact ⟨rfl, Fr.refl _ _⟩

/-- What is pending. -/
def pendY (l : List Nd) : List Nd := Mk.pend jn l l.length 11
set_option maxHeartbeats 1000000 in
theorem mpend_any (b : Nat) (l : List Nd) (w : World) (h : Bdr w b l) : Calls Try.prog 31 #[.pointer (some ⟨b, 0, none⟩)] w fun e w' => ∃ A L c, e = .returned (.slice A L c) ∧ (eB 16).Own 27 w' w.heap.size A c L (pendY l) ∧ L ≤ 11 ∧ Fr0 w w' := by
  have HB := Lib.hid h
  have hmx := h.max
  obtain ⟨n, HN⟩ := nm l.length
  rw [← HN.out] at hmx
  clear h
  go_enter Try.func31, Try.ntmps31
  go_wp2_with fail
  go_loopw [3, 4] (fun v iv wr => ∃ (H L : Nat) (z : Int) (A2 : Option Addr) (c2 : Nat) (acc : List Nd), iv = .int .i64 z ∧ z = (H : Int) - 1 ∧ v = .slice A2 L c2 ∧ L + H ≤ 11 ∧ L ≤ c2 ∧ c2 ≤ maxLen ∧ RowKit.Hid ((eB 16).Own 27 wr w.heap.size A2 c2 L acc) ∧ RowKit.Hid (acc ++ Mk.pend jn l n H = pendY l) ∧ RowKit.Hid (Fr0 w wr)) (fun _ v _ => (intOf v + 1).toNat)
  case atStart => exact ⟨11, 0, 10, none, 0, [], rfl, by omega, rfl, by omega, by omega, by unfold maxLen; omega, Lib.hid (Enc.Own.nil _ _ _ _), Lib.hid (by rw [HN.out, List.nil_append, pendY]), Lib.hid (Fr.refl _ _)⟩
  case round =>
    obtain ⟨H, L, z, A2, c2, acc, rfl, hz, rfl, hl, q3, q4, HO, HA, HF⟩ := hrel
    rcases H with _ | k
    · have z0 : ¬ (0 : Int) ≤ z := by omega
      clear hz
      go_wp2_with fail
      go_ret
      exact ⟨_, _, _, rfl, by have := HA.out; rw [Mk.pend, List.append_nil] at this; rw [← this]; exact HO.out, by omega, HF.out⟩
    · obtain rfl : z = (k : Int) := by omega
      clear hz
      have hcn := (HB.out.fr0 HF.out).cnt
      rw [← HN.out] at hcn
      have hshr := shr_nat n k (by omega)
      have hshr2 := shr_nat2 n k
      have hjm : n >>> k ≤ n := by rw [Nat.shiftRight_eq_div_pow]; exact Nat.div_le_self _ _
      obtain ⟨j, HJ⟩ := nm (n >>> k)
      rw [← HJ.out] at hshr hshr2 hjm
      have hand := bits_and1 (n := j) (by omega)
      rcases Nat.mod_two_eq_zero_or_one j with hb | hb
      · rw [hb] at hand
        have hbit : Mk.bit n k = false := by unfold Mk.bit; rw [← HJ.out, hb]; rfl
        go_wp2_with fail
        go_roundw
        case rel => exact ⟨k, L, _, _, _, acc, rfl, by go_num, rfl, by omega, q3, q4, HO, Lib.hid (by have := HA.out; rw [Mk.pend, hbit] at this; simpa using this), HF⟩
        case measure => simp [intOf]
      · rw [hb] at hand
        have hbit : Mk.bit n k = true := by unfold Mk.bit; rw [← HJ.out, hb]; rfl
        have hat := (HB.out.fr0 HF.out).row k (by omega) (by rw [← HN.out]; exact hbit)
        rw [← HN.out] at hat
        have HP := Lib.hid (show acc ++ [Mk.pnode jn l n k] ++ Mk.pend jn l n k = pendY l by have := HA.out; rw [Mk.pend, hbit] at this; simpa using this)
        obtain ⟨R, HR⟩ := nm (Mk.pnode jn l n k)
        rw [← HR.out] at hat
        have z1 : (k : Int) < 11 := by omega
        obtain ⟨A3, c3, w3, hrun, ho3, hf3, q5, q6⟩ := Enc.Own.app1 eapok___merkle_Node (by omega) HO.out HF.out rfl R (by omega) (by unfold maxLen; omega)
        have HO3 := Lib.hid ho3
        have HF3 := Lib.hid hf3
        clear ho3 hf3 hbit
        go_wp2_with fail
        go_roundw
        case rel => exact ⟨k, L + 1, _, A3, c3, acc ++ [R], rfl, by go_num, rfl, by omega, q5, q6, HO3, Lib.hid (by rw [HR.out]; exact HP.out), HF3⟩
        case measure => simp [intOf]

/-- The root of what a builder holds, and what Root answers. -/
def brootY (l : List Nd) : Nd × Int := match pendY l with | [x] => (x, 0) | _ => (z16N, 10)
set_option maxHeartbeats 1000000 in
theorem broot_any (b : Nat) (l : List Nd) (w : World) (h : Bdr w b l) : Calls Try.prog 29 #[.pointer (some ⟨b, 0, none⟩)] w fun e w' => e = .returned (.tuple #[(eB 16).v (brootY l).1, .int .i64 (brootY l).2]) ∧ Fr0 w w' := by
  have HB := Lib.hid (h.fr0 ((Fr.refl (fun _ => False) w).newE (eB 16) 27 z16N))
  clear h
  obtain ⟨y1, HY1⟩ := nm (brootY l).1
  obtain ⟨y2, HY2⟩ := nm (brootY l).2
  rw [← HY1.out, ← HY2.out]
  go_enter Try.func29, Try.ntmps29
  go_wp2_with fail
  refine (mpend_any b l _ HB.out).mono ?_
  rintro e w1 ⟨A, L, c, rfl, ho, hL, hf⟩
  have ho1 : okA w1 w.heap.size 0 16 = true := by rw [okA_fr hf _ _ _ (by simp)]; simp
  have HF := Lib.hid (((Fr.refl (fun _ => False) w).newE _ _ _).trans hf)
  have hlen := ho.len
  have hrd := ho.rds (by omega)
  clear hf
  by_cases h1 : L = 1
  · subst h1
    obtain ⟨x, hx⟩ : ∃ x, pendY l = [x] := by
      match hp : pendY l with
      | [x] => exact ⟨x, rfl⟩
      | [] => rw [hp] at hlen; cases hlen
      | _ :: _ :: _ => rw [hp] at hlen; simp at hlen
    obtain rfl : y1 = x := by rw [HY1.out]; unfold brootY; rw [hx]
    obtain rfl : y2 = 0 := by rw [HY2.out]; unfold brootY; rw [hx]
    rw [hx] at hrd
    obtain ⟨b1, o1, rfl, _, hb1, hat⟩ := hrd.atq (by simp)
    have hat := hat 0 y1 rfl
    rw [Nat.zero_mul, Nat.add_zero] at hat
    have hcap := ho.cap
    clear ho hlen hrd hx HY1 HY2
    go_wp2_with fail
    exact fin_E2 (eB 16) rfl Try.underlying27 rfl einfo_bulletin_merkle_Node (by rfl) rfl ho1 ⟨rfl, HF.out.fin _ (Nat.le_refl _) _ _⟩
  · have HY : brootY l = (z16N, 10) := by
      unfold brootY
      match hp : pendY l with
      | [x] => rw [hp] at hlen; exact absurd hlen.symm h1
      | [] => rfl
      | _ :: _ :: _ => rfl
    obtain rfl : y1 = z16N := by rw [HY1.out, HY]
    obtain rfl : y2 = 10 := by rw [HY2.out, HY]
    have z1 : ¬ (L : Int) = 1 := by omega
    clear ho hlen hrd HY HY1 HY2
    go_wp2_with fail
    exact fin_E2 (eB 16) rfl Try.underlying27 rfl einfo_bulletin_merkle_Node (by rfl) rfl ho1 ⟨rfl, HF.out.fin _ (Nat.le_refl _) _ _⟩
end Go.Proofs.Ytnholkjgdpapbaa
