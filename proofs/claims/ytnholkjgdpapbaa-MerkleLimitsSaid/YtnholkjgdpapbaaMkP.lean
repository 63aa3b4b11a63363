/- Chapter 06: MerkleLimits: the walk. No condition beyond that the second number is one of a byte. -/
import Derived.Test.YtnholkjgdpapbaaMkO
import Derived.Test.YtnholkjgdpapbaaMkJ
namespace Go.Proofs.Ytnholkjgdpapbaa
set_option linter.unusedVariables false
set_option linter.unusedSimpArgs false
set_option maxRecDepth 10000
open Go.RowKit Go.ChangeShapes
attribute [local go_sem ↓] Go.wp_at_zero Go.wp_at_succ

namespace Enc
variable {α : Type} {n : Nat} {E : Enc α n} {e : TypeId} {w w' w0 : World} {base : Nat} {A : Option Addr} {c L : Nat} {l : List α}
theorem Own.app1z {P : Program} {t : TypeId} {bytes : Nat} {wr wv : World} (hok : appOk P t e n bytes = true) (hn : 0 < n) (h : E.Own e wr base A c L l) (hf : Fr0 wr wv) (hbase : base ≤ wr.heap.size) (a : α) (hb : (L + 1) * bytes ≤ 140737488355328) (h63 : L + 1 ≤ maxLen) :
    ∃ A2 c2 w3, (Proofs.Ytnholkjgdpapbaa.app #[t, t] t #[.slice A L c, .slice (some ⟨wv.heap.size, 0, none⟩) 1 1]).run P (E.new e wv a) = .ok (.slice A2 (L + 1) c2) w3 ∧ E.Own e w3 base A2 c2 (L + 1) (l ++ [a]) ∧ Fr (fun b => (Value.slice A L c).ownBlock = some b) wv w3 ∧ L + 1 ≤ c2 ∧ c2 ≤ maxLen ∧
      (∀ k, (Value.slice A2 (L + 1) c2).ownBlock = some k → (Value.slice A L c).ownBlock = some k ∨ wv.heap.size ≤ k) := by
  have hown := own_fr0 h.own hf
  have hlen := h.len
  subst hlen
  obtain ⟨A2, c2, w2, h1, h2, h3, h4, h5⟩ := Enc.app (E := E) hn hok (E.new e wv a) (own_fr0 hown ((Fr.refl _ _).newE E e a)) (Rds.new e wv a) (by simpa using hb) (by simpa using h63) (by have := hf.size; simp; omega)
  have hl : (l ++ [a]).length = l.length + 1 := by simp
  rw [hl] at h1 h5
  obtain ⟨A3, c3, he, q1, q2⟩ := own_form h2
  injection he with _ _ he
  subst he
  refine ⟨A2, c2, w2, h1, ⟨by rw [hl] at h2; exact h2, hl⟩, ((Fr.refl _ wv).newE E e a).trans h3, by omega, q2, fun k hk => ?_⟩
  rcases h5 with h5 | h5
  · left; rw [← h5]; exact hk
  · right; rw [h5] at hk; injection hk with hk; simp at hk; omega
theorem Own.blk (h : E.Own e w base A c L l) (k : Nat) (hk : (Value.slice A L c).ownBlock = some k) : base ≤ k ∧ k < w.heap.size := by
  obtain ⟨cur, hh⟩ := own_type h.own k hk
  exact ⟨own_ge _ h.own k hk, heap_lt hh⟩
end Enc

/-- The root of a tree whose leaves are all x. -/
def tw (x : Nd) : Nat → Nd
  | 0 => x
  | h + 1 => jn (h + 1) (tw x h) (tw x h)
theorem node_rep (x : Nd) (N : Nat) : ∀ h k, (k + 1) * 2 ^ h ≤ N → Mk.node jn (List.replicate N x) h k = tw x h
  | 0, k, hk => by rw [Nat.pow_zero, Nat.mul_one] at hk; simp [Mk.node, tw, List.getD, List.getElem?_replicate, show k < N by omega]
  | h + 1, k, hk => by
    have hp : (k + 1) * 2 ^ (h + 1) = (2 * k + 1 + 1) * 2 ^ h := by rw [Nat.pow_succ, Nat.mul_comm (2 ^ h) 2, ← Nat.mul_assoc]; congr 1; omega
    have h1 : (2 * k + 1 + 1) * 2 ^ h ≤ N := by omega
    have h0 : (2 * k + 1) * 2 ^ h ≤ N := Nat.le_trans (Nat.mul_le_mul_right _ (by omega)) h1
    rw [Mk.node, node_rep x N h (2 * k) h0, node_rep x N h (2 * k + 1) h1, tw]
theorem root_rep (x : Nd) : chkN (List.replicate 1024 x).length = 0 ∧ rootY (List.replicate 1024 x) = tw x 10 := by
  have h0 : chkN (List.replicate 1024 x).length = 0 := by rw [List.length_replicate]; exact chk_pow (h := 10) (by omega)
  refine ⟨h0, ?_⟩
  unfold rootY
  rw [if_pos h0, List.length_replicate, show (1024 : Nat) = 2 ^ 10 from rfl, p2_pow (by omega)]
  exact node_rep x _ 10 0 (by omega)
theorem chk_over {n : Nat} (h : 1024 < n) : chkN n = 9 := by unfold chkN; rw [if_neg (by omega), if_pos h]

theorem broot_nil (w : World) : Calls Try.prog 29 #[.pointer none] w fun e w' => e = .returned (.tuple #[(eB 16).v z16N, .int .i64 1]) ∧ Fr0 w w' := by
  go_enter Try.func29, Try.ntmps29
  go_wp2_with fail
  exact bodyPost_E2 (eB 16) (x := z16N) rfl Try.underlying27 rfl einfo_bulletin_merkle_Node (by rfl) ((eB 16).at_new _ _) rfl ⟨rfl, (Fr.refl _ _).newE _ _ _⟩
theorem blen_nil (w : World) : Calls Try.prog 30 #[.pointer none] w fun e w' => e = .returned (.int .i64 0) ∧ w = w' := by
  go_enter Try.func30, Try.ntmps30
  go_wp2_with fail
  go_ret
  exact ⟨rfl, rfl⟩
theorem mpend_nil (w : World) : Calls Try.prog 31 #[.pointer none] w fun e w' => e = .returned (.slice none 0 0) ∧ w = w' := by
  go_enter Try.func31, Try.ntmps31
  go_wp2_with fail
  go_ret
  exact ⟨rfl, rfl⟩

theorem rem8 (m r : Nat) (h : (m : Int).tmod 3 = (r : Int)) (w : World) : (op8 .rem (.int .u8 (m : Int)) (.int .u8 3)).run Try.prog w = .ok (.int .u8 (r : Int)) w := by
  exact (show Sem.run _ (pure (Value.int IntKind.u8 _)) w = _ from by rw [h]; rfl)
set_option maxHeartbeats 4000000 in
theorem limits_walk (x : Nd) (m : Nat) (hm : m < 256) (w : World) :
    Calls Try.prog 10 #[(eB 16).v x, .int .u8 (m : Int)] w fun e w' => e = .returned (.bool true) ∧ Fr0 w w' := by
  have hrem : (m : Int).tmod 3 = ((m % 3 : Nat) : Int) := by rw [Int.tmod_eq_emod_of_nonneg (by omega)]; rfl
  obtain ⟨r, HR⟩ := nm (m % 3)
  have hr3 : r < 3 := by rw [HR.out]; omega
  rw [← HR.out] at hrem
  have hrem8 := rem8 m r hrem
  obtain ⟨w1, HW1⟩ := nm ((eB 16).new 24 w x)
  have hx1 : (eB 16).at_ w1 w.heap.size 0 = some x := by rw [HW1.out]; simp
  have H1 := Lib.hid (show Fr0 w w1 by rw [HW1.out]; exact (Fr.refl _ _).newE _ _ _)
  have HX1 := Lib.hid hx1
  obtain ⟨g, HG⟩ := nm w.heap.size
  rw [← HG.out] at HX1
  clear hx1
  go_enter Try.func10, Try.ntmps10
  go_wp2_with fail
  rw [← HW1.out, ← HG.out]
  clear HW1
  refine (known_any _).mono ?_
  rintro e w2 ⟨rfl, hf⟩
  have H2 := Lib.hid (And.intro (H1.out.trans hf) (((eB 16).at_fr hf _ _ ((eB 16).at_lt HX1.out)).trans HX1.out))
  clear hf
  go_wp2_with fail
  refine (broot_nil _).mono ?_
  rintro e w3 ⟨rfl, hf⟩
  obtain ⟨wa, HWA⟩ := nm ((eB 16).new 27 w3 z16N)
  have hfa : Fr0 w2 wa := by rw [HWA.out]; exact hf.newE _ _ _
  have H3 := Lib.hid (And.intro (H2.out.1.trans hfa) (((eB 16).at_fr hfa _ _ ((eB 16).at_lt H2.out.2)).trans H2.out.2))
  have hx3 : (eB 16).at_ ((eB 16).new 27 w3 z16N) g 0 = some x := by rw [← HWA.out]; exact H3.out.2
  clear hf hfa
  go_wp2_with fail
  rw [← HWA.out]
  clear HWA hx3
  refine (add_nil x _).mono ?_
  rintro e w4 ⟨rfl, hf⟩
  have H4 := Lib.hid (And.intro (H3.out.1.trans hf) (((eB 16).at_fr hf _ _ ((eB 16).at_lt H3.out.2)).trans H3.out.2))
  clear hf
  go_wp2_with fail
  refine (blen_nil _).mono ?_
  rintro e _ ⟨rfl, rfl⟩
  go_wp2_with fail
  refine (mpend_nil _).mono ?_
  rintro e _ ⟨rfl, rfl⟩
  go_wp2_with fail
  refine (newb_any _).mono ?_
  rintro e wB ⟨rfl, hb, hf⟩
  have HB := Lib.hid (And.intro hb (And.intro (H4.out.1.trans hf) (((eB 16).at_fr hf _ _ ((eB 16).at_lt H4.out.2)).trans H4.out.2)))
  have hbB : w4.heap.size < wB.heap.size := hb.lt
  have hg4 : g < w4.heap.size := (eB 16).at_lt H4.out.2
  have hww := H4.out.1.size
  obtain ⟨b, HGB⟩ := nm w4.heap.size
  rw [← HGB.out] at HB hbB hg4 hww ⊢
  clear hb hf
  go_wp2_with fail
  go_loopw [9, 10] (fun v iv wr => ∃ (i : Nat) (A2 : Option Addr) (c2 : Nat), iv = .int .i64 (i : Int) ∧ v = .slice A2 i c2 ∧ i ≤ 1024 ∧ i ≤ c2 ∧ c2 ≤ maxLen ∧ RowKit.Hid ((eB 16).Own 27 wr wB.heap.size A2 c2 i (List.replicate i x)) ∧ RowKit.Hid (Bdr wr b (List.replicate i x)) ∧ RowKit.Hid (Fr1 b wB wr)) (fun _ v _ => 1024 - (intOf v).toNat)
  case atStart => exact ⟨0, none, 0, rfl, rfl, by omega, by omega, by unfold maxLen; omega, Lib.hid (Enc.Own.nil _ _ _ _), Lib.hid HB.out.1, Lib.hid (Fr.refl _ _)⟩
  case round =>
    obtain ⟨i, A2, c2, rfl, rfl, hi, q1, q2, HO, HD, HF⟩ := hrel
    have hxr := ((eB 16).at_frS HF.out _ _ ((eB 16).at_lt HB.out.2.2) (by omega)).trans HB.out.2.2
    by_cases hlt : i < 1024
    · have z1 : (i : Int) < 1024 := by omega
      obtain ⟨A3, c3, w3', hrun, ho3, hf3, q5, q6⟩ := Enc.Own.app1x eapok___merkle_Node (by omega) HO.out (Fr.refl _ _) HF.out.size x (by omega) (by unfold maxLen; omega)
      have hx3 := ((eB 16).at_frS hf3 _ _ ((eB 16).at_lt hxr) (by omega)).trans hxr
      have HO3 := Lib.hid (And.intro ho3 (And.intro (HD.out.fr hf3 (by omega)) (HF.out.then_ hf3 (fun j hj e => by omega))))
      clear ho3 hf3
      go_wp2_with fail
      refine (add_any b _ x _ HO3.out.2.1 (by rw [List.length_replicate]; exact hlt)).mono ?_
      rintro e w5 ⟨rfl, hb5, hf5⟩
      have HO5 := Lib.hid (And.intro (HO3.out.1.frS hf5 (fun k hk e => by omega)) (And.intro hb5 (HO3.out.2.2.trans hf5)))
      rw [← List.replicate_succ'] at HO5
      clear hb5 hf5 hx3 hrun
      go_wp2_with fail
      go_roundw
      case rel =>
        first
        | exact ⟨i + 1, A3, c3, by go_num, rfl, by omega, q5, q6, Lib.hid HO5.out.1, Lib.hid HO5.out.2.1, Lib.hid HO5.out.2.2⟩
        | ((repeat apply Exists.intro); exact ⟨⟨i + 1, A3, c3, by go_num, rfl, by omega, q5, q6, Lib.hid HO5.out.1, Lib.hid HO5.out.2.1, Lib.hid HO5.out.2.2⟩, rfl⟩)
      case measure => simp [intOf]; omega
    · obtain rfl : i = 1024 := by omega
      clear hlt
      have hxn : (eB 16).at_ ((eB 16).new 27 wr z16N) g 0 = some x := by rw [(eB 16).at_newOld _ _ _ ((eB 16).at_lt hxr)]; exact hxr
      have hgr := (eB 16).at_lt hxr
      have HRR := Lib.hid (root_rep x)
      obtain ⟨wM, HWM⟩ := nm ((eB 16).new 27 wr x)
      have HM := Lib.hid (show Fr0 wr wM by rw [HWM.out]; exact (Fr.refl _ _).newE _ _ _)
      have hM1 : (eB 16).at_ wM wr.heap.size 0 = some x := by rw [HWM.out]; simp
      have hM2 : okA wM wr.heap.size 0 16 = true := by rw [HWM.out]; simp
      have hxM : (eB 16).at_ wM g 0 = some x := by rw [HWM.out, (eB 16).at_newOld _ _ _ hgr]; exact hxr
      have hsM : wr.heap.size < wM.heap.size := (eB 16).at_lt hM1
      obtain ⟨s1, HS1⟩ := nm wr.heap.size
      have hs1 : b < s1 ∧ wB.heap.size ≤ s1 := by have := HF.out.size; have := HS1.out; omega
      have HOB := Lib.hid (show ∀ k, (Value.slice A2 1024 c2).ownBlock = some k → wB.heap.size ≤ k ∧ k < s1 by rw [HS1.out]; exact HO.out.blk)
      rw [← HS1.out] at hM1 hM2 hsM
      go_wp2_with fail
      rw [← HWM.out, ← HS1.out]
      clear HWM hxn
      rw [show ((1024 : Nat) : Int) = 1024 from rfl]
      go_loopw [12] (fun v wv => ∃ (k : Nat) (z : Int), v = .int .i64 z ∧ 0 ≤ z ∧ z ≤ 11 ∧ RowKit.Hid (z = (k : Int) + 1) ∧ k ≤ 10 ∧ okA wv s1 0 16 = true ∧ (eB 16).at_ wv s1 0 = some (tw x k) ∧ RowKit.Hid (Fr1 s1 wM wv)) (fun v _ => 11 - (intOf v).toNat)
      case atStart => exact ⟨0, 1, rfl, by omega, by omega, Lib.hid (by omega), by omega, hM2, hM1, Lib.hid (Fr.refl _ _)⟩
      case round =>
        clear hM1 hM2 hxr
        obtain ⟨k, z, rfl, hz1, hz2, hz, hk, hok, hat, HFV⟩ := hrel
        by_cases hlt : k < 10
        · have z1 : z ≤ 10 := by have := hz.out; omega
          have HT := Lib.hid (show joinY z (tw x k) (tw x k) = tw x (k + 1) by rw [tw, jn_succ, hz.out])
          have hs := (eB 16).at_lt hat
          obtain ⟨y, HY⟩ := nm (tw x k)
          rw [← HY.out] at hat HT
          go_wp2_with fail
          refine (join_any z y y _).mono ?_
          rintro e w6 ⟨rfl, hf6⟩
          have o6 : okA w6 s1 0 16 = true := by rw [okA_fr hf6 _ _ _ hs]; exact hok
          have HF6 := Lib.hid (HFV.out.trans hf6.of0)
          rw [HT.out]
          clear hf6
          go_wp2_with fail
          go_roundw
          case rel =>
            first
            | exact ⟨k + 1, z + 1, by go_num, by omega, by omega, Lib.hid (by rw [hz.out]; go_num), by omega, by rw [(eB 16).okA_put o6]; exact o6, (eB 16).at_put o6, Lib.hid (HF6.out.putE (eB 16) (fun _ => rfl) _ _)⟩
            | ((repeat apply Exists.intro); exact ⟨⟨k + 1, z + 1, by go_num, by omega, by omega, Lib.hid (by rw [hz.out]; go_num), by omega, by rw [(eB 16).okA_put o6]; exact o6, (eB 16).at_put o6, Lib.hid (HF6.out.putE (eB 16) (fun _ => rfl) _ _)⟩, rfl⟩)
          case measure => have := hz.out; simp [intOf]; omega
        · obtain rfl : k = 10 := by omega
          have z1 : ¬ z ≤ 10 := by have := hz.out; omega
          clear hlt
          obtain ⟨y, HY⟩ := nm (tw x 10)
          rw [← HY.out] at hat HRR
          have hsv := (eB 16).at_lt hat
          have hxw : (eB 16).at_ wr g 0 = some x := ((eB 16).at_frS HFV.out _ _ (by omega) (by omega)).trans hxM
          have HOv := Lib.hid (And.intro (show (eB 16).Own 27 wr wB.heap.size A2 c2 1024 (List.replicate 1024 x) from ⟨own_fr (HO.out.fr0 HM.out).own HFV.out (fun k hk e => by have := HOB.out k hk; omega), (HO.out).len⟩) (And.intro ((HD.out.fr0 HM.out).fr HFV.out (by omega)) (show (eB 16).at_ wr g 0 = some x from hxw)))
          have HW3 := Lib.hid (show Fr0 w wr from ((HB.out.2.1.then_ HF.out (fun j hj e => by omega)).trans HM.out).then_ HFV.out (fun j hj e => by omega))
          go_wp2_with fail
          refine (mroot_any _ _ A2 1024 c2 wr (HOv.out.1.rds (by omega)) (by omega)).mono ?_
          rintro e w7 ⟨rfl, hf7⟩
          rw [HRR.out.2, show chkN 1024 = 0 by have := HRR.out.1; rwa [List.length_replicate] at this]
          obtain ⟨wC, HWC⟩ := nm ((eB 16).new 27 w7 y)
          have h713 : (eB 16).at_ wC w7.heap.size 0 = some y := by rw [HWC.out]; simp
          have HFC := Lib.hid (show Fr0 wr wC by rw [HWC.out]; exact hf7.newE _ _ _)
          have hs7 : wr.heap.size ≤ w7.heap.size := hf7.size
          obtain ⟨n13, HN13⟩ := nm w7.heap.size
          rw [← HN13.out] at h713 hs7
          clear hf7
          go_wp2_with fail
          rw [← HWC.out, ← HN13.out]
          clear HWC
          refine (broot_any b _ _ (HOv.out.2.1.fr0 HFC.out)).mono ?_
          rintro e w8 ⟨rfl, hf8⟩
          rw [broot_ok _ HRR.out.1, HRR.out.2]
          obtain ⟨wD, HWD⟩ := nm ((eB 16).new 27 w8 y)
          have hfD : Fr0 wC wD := by rw [HWD.out]; exact hf8.newE _ _ _
          have HFD := Lib.hid (show Fr0 wr wD from HFC.out.trans hfD)
          have h815 : (eB 16).at_ wD w8.heap.size 0 = some y := by rw [HWD.out]; simp
          have hs8 : n13 < w8.heap.size := Nat.lt_of_lt_of_le ((eB 16).at_lt h713) hf8.size
          obtain ⟨n15, HN15⟩ := nm w8.heap.size
          rw [← HN15.out] at h815 hs8
          have HA := Lib.hid (show (eB 16).at_ wD s1 0 = some y ∧ (eB 16).at_ wD n13 0 = some y ∧ (eB 16).at_ wD n15 0 = some y ∧ (eB 16).at_ wD g 0 = some x from
            ⟨((eB 16).at_fr HFD.out _ _ hsv).trans hat, ((eB 16).at_fr hfD _ _ ((eB 16).at_lt h713)).trans h713, h815, ((eB 16).at_fr HFD.out _ _ ((eB 16).at_lt HOv.out.2.2)).trans HOv.out.2.2⟩)
          have hsD : n15 < wD.heap.size := (eB 16).at_lt h815
          clear hf8 hfD h713 h815
          go_wp2_with fail
          rw [← HWD.out, ← HN15.out]
          clear HWD
          go_loopw [9, 17] (fun v iv wv => ∃ (i N3 : Nat) (A3 : Option Addr) (c3 : Nat), iv = .int .i64 (i : Int) ∧ v = .slice A3 N3 c3 ∧ i ≤ r + 1 ∧ N3 ≤ c3 ∧ c3 ≤ maxLen ∧ RowKit.Hid (N3 = 1024 + i) ∧ RowKit.Hid ((eB 16).Own 27 wv wB.heap.size A3 c3 N3 (List.replicate N3 x)) ∧ RowKit.Hid (∀ k, (Value.slice A3 N3 c3).ownBlock = some k → (wB.heap.size ≤ k ∧ k < s1) ∨ wD.heap.size ≤ k) ∧ RowKit.Hid (Fr (fun k => wB.heap.size ≤ k ∧ k < s1) wD wv)) (fun _ v _ => 4 - (intOf v).toNat)
          case atStart => exact ⟨0, 1024, A2, c2, rfl, rfl, by omega, by omega, by omega, Lib.hid rfl, Lib.hid (HOv.out.1.fr0 HFD.out), Lib.hid (fun k hk => .inl (HOB.out k hk)), Lib.hid (Fr.refl _ _)⟩
          case round =>
            obtain ⟨i, N3, A3, c3, rfl, rfl, hi3, q3, q4, HN3, HO3, HK3, HF3⟩ := hrel
            have hgw := ((eB 16).at_frS HF3.out _ _ ((eB 16).at_lt HA.out.2.2.2) (by omega)).trans HA.out.2.2.2
            by_cases hir : i ≤ r
            · have z3 : (i : Int) ≤ (r : Int) := by omega
              obtain ⟨A4, c4, w4', hrun, ho4, hf4, q5, q6, hk4⟩ := Enc.Own.app1z eapok___merkle_Node (by omega) HO3.out (Fr.refl _ _) (by have := HF3.out.size; omega) x (by have := HN3.out; omega) (by have := HN3.out; unfold maxLen; omega)
              rw [← List.replicate_succ'] at ho4
              have HO4 := Lib.hid (And.intro ho4 (show ∀ k, (Value.slice A4 (N3 + 1) c4).ownBlock = some k → (wB.heap.size ≤ k ∧ k < s1) ∨ wD.heap.size ≤ k from fun k hk => by
                rcases hk4 k hk with h | h
                · exact HK3.out k h
                · right; have := HF3.out.size; omega))
              have HF4 := Lib.hid (show Fr (fun k => wB.heap.size ≤ k ∧ k < s1) wD w4' from HF3.out.then_ hf4 (fun j hj e => by
                rcases HK3.out j e with h | h
                · exact h
                · omega))
              clear ho4 hf4 hk4
              go_wp2_with fail
              go_roundw
              case rel =>
                first
                | exact ⟨i + 1, N3 + 1, A4, c4, by go_num, rfl, by omega, q5, q6, Lib.hid (by have := HN3.out; omega), Lib.hid HO4.out.1, Lib.hid HO4.out.2, HF4⟩
                | ((repeat apply Exists.intro); exact ⟨⟨i + 1, N3 + 1, A4, c4, by go_num, rfl, by omega, q5, q6, Lib.hid (by have := HN3.out; omega), Lib.hid HO4.out.1, Lib.hid HO4.out.2, HF4⟩, rfl⟩)
              case measure => simp [intOf]; omega
            · have z3 : ¬ (i : Int) ≤ (r : Int) := by omega
              clear hir
              go_wp2_with fail
              refine (mroot_any _ _ A3 N3 c3 wr (HO3.out.rds (by omega)) (by have := HN3.out; omega)).mono ?_
              rintro e w9 ⟨rfl, hf9⟩
              rw [chk_over (by have := HN3.out; omega)]
              obtain ⟨rt, HRT⟩ := nm (rootY (List.replicate N3 x))
              rw [← HRT.out]
              obtain ⟨wE, HWE⟩ := nm ((eB 16).new 27 w9 rt)
              have HFE := Lib.hid (show Fr0 wr wE by rw [HWE.out]; exact hf9.newE _ _ _)
              have hDE := HF3.out.trans HFE.out.of0
              have e11 : (eB 16).at_ ((eB 16).new 27 w9 rt) s1 0 = some y := by rw [← HWE.out]; exact ((eB 16).at_frS hDE _ _ (by omega) (by omega)).trans HA.out.1
              have e13 : (eB 16).at_ ((eB 16).new 27 w9 rt) n13 0 = some y := by rw [← HWE.out]; exact ((eB 16).at_frS hDE _ _ (by omega) (by omega)).trans HA.out.2.1
              have e15 : (eB 16).at_ ((eB 16).new 27 w9 rt) n15 0 = some y := by rw [← HWE.out]; exact ((eB 16).at_frS hDE _ _ (by omega) (by omega)).trans HA.out.2.2.1
              have eg : (eB 16).at_ ((eB 16).new 27 w9 rt) g 0 = some x := by rw [← HWE.out]; exact ((eB 16).at_frS hDE _ _ (by omega) (by omega)).trans HA.out.2.2.2
              have HBE := Lib.hid (show Bdr wE b (List.replicate 1024 x) from (HOv.out.2.1.fr0 HFD.out).fr hDE (by omega))
              have HWE2 := Lib.hid (show Fr0 w wE from (HW3.out.trans HFD.out).then_ hDE (fun j hj e => by omega))
              clear hf9 hDE
              go_wp2_with fail
              rw [← HWE.out]
              clear e11 e13 e15 eg HWE
              refine (add_full b _ x _ HBE.out (List.length_replicate ..)).mono ?_
              rintro e w10 ⟨rfl, hf10⟩
              have HB10 := Lib.hid (And.intro (HBE.out.fr0 hf10) (HWE2.out.trans hf10))
              clear hf10
              go_wp2_with fail
              refine (blen_any b _ _ HB10.out.1).mono ?_
              rintro e w11 ⟨rfl, hf11⟩
              have HF11 := Lib.hid (HB10.out.2.trans hf11)
              rw [List.length_replicate]
              clear hf11
              go_wp2_with fail
              go_ret
              exact ⟨rfl, HF11.out⟩
theorem limits_law (x : Nd) (a : Int) (w : World) (h : (Lit.int .u8 a).wf = true) :
    Calls Try.prog 10 #[.agg (bs x.1).toArray, .int .u8 a] w fun e w' => e = .returned (.bool true) ∧ Below w.heap.size w w' := by
  have hb := bounds_u8 h
  obtain ⟨m, rfl⟩ : ∃ m : Nat, a = (m : Int) := ⟨a.toNat, by omega⟩
  exact (limits_walk x m (by omega) w).mono fun e w' ⟨h1, h2⟩ => ⟨h1, Fr0.below h2⟩
end Go.Proofs.Ytnholkjgdpapbaa
