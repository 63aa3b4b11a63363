/- Chapter 06: the reference's Pairs. No condition beyond the lengths that are named. -/
import Derived.Test.YtnholkjgdpapbaaMkI
import Derived.BigRegion
namespace Go.Proofs.Ytnholkjgdpapbaa
set_option linter.unusedVariables false
set_option linter.unusedSimpArgs false
set_option maxRecDepth 10000
open Go.RowKit
attribute [local go_sem ↓] Go.wp_at_zero Go.wp_at_succ

theorem run_bd2 {P : Program} (w : World) {T e : TypeId} (hu : P.underlying T = some (.array 2 e)) (hi : (P.info? T).map (fun i => i.zero.map (·.cells.size)) = some (some 32)) (he : (P.info? e).map (·.size) = some 16) (a b : Nd) :
    (bd T #[(0, (eB 16).v a), (1, (eB 16).v b)]).run P w = .ok (e2.v (a, b)) w := by
  obtain ⟨i, hi, h1⟩ := Option.map_eq_some_iff.1 hi
  obtain ⟨z, hz, h2⟩ := Option.map_eq_some_iff.1 h1
  obtain ⟨ie, he, h3⟩ := Option.map_eq_some_iff.1 he
  have e1 : partsCells (#[(0, (eB 16).v a), (1, (eB 16).v b)] : Array (Nat × Value)).toList = (e2.f (a, b)).toArray := by simp [partsCells, Enc.v, Value.cells, e2, eP]
  have h := run_bd_arr w hu hi hz he #[(0, (eB 16).v a), (1, (eB 16).v b)] (by simp [Consec, Enc.v, Value.cells, h3, eB]) (by rw [e1, e2.size, h2]; exact Nat.le_refl _)
  rw [h]
  rw [e1, e2.size, h2]
  have e3 : z.cells.extract 32 32 = #[] := by apply Array.eq_empty_of_size_eq_zero; simp; omega
  rw [e3, Array.append_empty]
  rfl
@[go_sem ↓] theorem ex_bd2_rn (ρ : Operand → Value) (dst : Option Tmp) (ps : Array (Nat × Operand)) (ty : TypeId) (pos : String) (aft : Array Edge) (gd : Option (Nat × Bool)) :
    execOp ρ ⟨dst, .build 25 ps, ty, pos, aft, gd⟩ = (do pure (.value (← bd 25 (ps.map fun (i, x) => (i, ρ x))))) := rfl
@[go_sem] theorem run_bd2_rn (w : World) (a b : Nd) : (bd 25 #[(0, (eB 16).v a), (1, (eB 16).v b)]).run Try.prog w = .ok (e2.v (a, b)) w := run_bd2 w Try.underlying25 (by kernel_rfl) (by kernel_rfl) a b
@[go_sem ↓] theorem ex_bd2_mn (ρ : Operand → Value) (dst : Option Tmp) (ps : Array (Nat × Operand)) (ty : TypeId) (pos : String) (aft : Array Edge) (gd : Option (Nat × Bool)) :
    execOp ρ ⟨dst, .build 36 ps, ty, pos, aft, gd⟩ = (do pure (.value (← bd 36 (ps.map fun (i, x) => (i, ρ x))))) := rfl
@[go_sem] theorem run_bd2_mn (w : World) (a b : Nd) : (bd 36 #[(0, (eB 16).v a), (1, (eB 16).v b)]).run Try.prog w = .ok (e2.v (a, b)) w := run_bd2 w Try.underlying36 (by kernel_rfl) (by kernel_rfl) a b

namespace Enc
variable {α : Type} {n : Nat} {E : Enc α n} {e : TypeId} {base : Nat} {A : Option Addr} {c L : Nat} {l : List α}
theorem Own.frS {S : Nat → Prop} {w w' : World} (h : E.Own e w base A c L l) (hf : Fr S w w') (hS : ∀ k, base ≤ k → ¬ S k) : E.Own e w' base A c L l :=
  ⟨own_fr h.own hf (fun k hk => hS k (own_ge _ h.own k hk)), h.len⟩
theorem Own.app1x {P : Program} {t : TypeId} {bytes : Nat} {wr wv : World} (hok : appOk P t e n bytes = true) (hn : 0 < n) (h : E.Own e wr base A c L l) (hf : Fr0 wr wv) (hbase : base ≤ wr.heap.size) (a : α) (hb : (L + 1) * bytes ≤ 140737488355328) (h63 : L + 1 ≤ maxLen) :
    ∃ A2 c2 w3, (Proofs.Ytnholkjgdpapbaa.app #[t, t] t #[.slice A L c, .slice (some ⟨wv.heap.size, 0, none⟩) 1 1]).run P (E.new e wv a) = .ok (.slice A2 (L + 1) c2) w3 ∧ E.Own e w3 base A2 c2 (L + 1) (l ++ [a]) ∧ Fr (fun b => base ≤ b ∧ b < wr.heap.size) wv w3 ∧ L + 1 ≤ c2 ∧ c2 ≤ maxLen := by
  have hown := own_fr0 h.own hf
  have hty := own_type h.own
  have hlen := h.len
  subst hlen
  obtain ⟨A2, c2, w2, h1, h2, h3, h4, h5, h6, h7⟩ := Enc.app1 hn hok wv a hown hb h63 (Nat.le_trans hbase hf.size)
  refine ⟨A2, c2, w2, h1, ⟨by rw [List.length_append] at h2; exact h2, by simp⟩, h3.mono (fun k hk he => ⟨h4 k he, ?_⟩), h6, h7⟩
  obtain ⟨cur, hh⟩ := hty k he
  exact heap_lt hh
end Enc
theorem results_tmp_cell_tmp {fn : Func} {p u v : Tmp} {ty : TypeId} (h : fn.results = #[.tmp u, .cell p ty, .tmp v]) (tmps : Array Value) (P : Program) (w : World) :
    (results fn tmps).run P w = ((asAddr (tmps.getD p undef)).run P w).andThen fun a w₁ => ((loadVar ty a).run P w₁).andThen fun c w₂ => .ok (.tuple #[tmps.getD u undef, c, tmps.getD v undef]) w₂ := by
  simp only [results, h]
  simp [Sem.run_bind, Result.andThen]
theorem bodyPost_E3m {P : Program} {w : World} {α : Type} {n : Nat} (E : Enc α n) {fn : Func} {p u v : Tmp} {T : TypeId} {d : TypeDesc} (h : fn.results = #[.tmp u, .cell p T, .tmp v]) (hu : P.underlying T = some d) (hd : d.isRow = true) (hi : (P.info? T).map (·.size) = some n)
    {R : Ending → World → Prop} {a : Act} {b o : Nat} {x : α} (ht : a.tmps.getD p undef = .pointer (some ⟨b, o, none⟩)) (hl : E.at_ w b o = some x) (hd0 : a.defers = []) (hR : R (.returned (.tuple #[a.tmps.getD u undef, E.v x, a.tmps.getD v undef])) w) : bodyPost P fn R .ret a w := by
  refine bodyPost_ret (v := .tuple #[a.tmps.getD u undef, E.v x, a.tmps.getD v undef]) ?_ hd0 hR
  rw [results_tmp_cell_tmp h, ht]
  simp [asAddr, run_loadVar_ldA hu hd hi (E.ldA_of hl)]
  rfl

/-- The pairs on the way of a leaf, the lowest one first. -/
def prsY (x : Nd) (n : Nat) (p : List Nd) (k : Nat) : List (Nd × Nd) := (List.range k).map (pairY x n p)
theorem prsY_succ (x : Nd) (n : Nat) (p : List Nd) (k : Nat) : prsY x n p (k + 1) = prsY x n p k ++ [pairY x n p k] := by simp [prsY, List.range_succ]
theorem prsY_length (x : Nd) (n : Nat) (p : List Nd) (k : Nat) : (prsY x n p k).length = k := by simp [prsY]
def pairsR (x : Nd) (i : Int) (p : List Nd) : List (Nd × Nd) := if fromE p.length i = 0 then prsY x i.toNat p p.length else []
instance inhPair : Inhabited (Nd × Nd) := ⟨(default, default)⟩

def TT26 : List (List Nat) := [[], [], [], [1, 2], [1, 2, 3], [0, 1, 2, 3, 4], [], [0, 1, 2, 3, 4, 5, 6]]

set_option maxHeartbeats 4000000 in
theorem rpairs_any (x : Nd) (i : Int) (p : List Nd) (B : Nat) (A : Option Addr) (L c : Nat) (w : World) (hs : (eB 16).Rds w B (.slice A L c) p) :
    Calls Try.prog 26 #[(eB 16).v x, .int .i64 i, .slice A L c] w fun e w' => ∃ A2 c2, e = .returned (.tuple #[.slice A2 (pairsR x i p).length c2, (eB 16).v (fromY x i p), .int .i64 (fromE L i)]) ∧ e2.Own 25 w' w.heap.size A2 c2 (pairsR x i p).length (pairsR x i p) ∧ Fr0 w w' := by
  have hlen := hs.len
  obtain ⟨q1, q2⟩ := hs.cap
  have hY : fromY x i p = if fromE L i = 0 then atY x i.toNat p L else z16N := by unfold fromY; rw [hlen]
  have hP : pairsR x i p = if fromE L i = 0 then prsY x i.toNat p L else [] := by unfold pairsR; rw [hlen]
  rw [hY, hP]
  clear hY hP
  unfold fromE
  unfold maxLen at q2
  by_cases h1 : 10 < L
  · rw [if_pos h1, if_neg (by omega), if_neg (by omega)]
    have z1 : (10 : Int) < (L : Int) := by omega
    clear hs hlen
    go_enter Try.func26, Try.ntmps26
    go_wp2_with fail
    exact bodyPost_E3m (eB 16) (x := z16N) rfl Try.underlying24 rfl einfo_bulletin_bulletinref06_N (by rfl) (by simp) rfl ⟨_, _, rfl, Enc.Own.nil _ _ _ _, ((Fr.refl _ _).newE _ _ _).newE _ _ _⟩
  · rw [if_neg h1]
    have z1 : ¬ (10 : Int) < (L : Int) := by omega
    have hshl := shl_nat L (by omega)
    have hshl2 := shl_nat64 L (by omega)
    have hp : (2 : Nat) ^ L ≤ 2 ^ 10 := Nat.pow_le_pow_right (by omega) (by omega)
    obtain ⟨P, HP⟩ := nm (2 ^ L : Nat)
    rw [← HP.out] at hshl hshl2 hp ⊢
    by_cases h23 : 0 ≤ i ∧ i < (P : Int)
    · obtain ⟨h2, h3⟩ := h23
      rw [show (if 0 ≤ i ∧ i < (P : Int) then (0 : Int) else 8) = 0 from if_pos ⟨h2, h3⟩, if_pos rfl, if_pos rfl, prsY_length]
      obtain ⟨n, rfl⟩ := Int.eq_ofNat_of_zero_le h2
      rw [Int.toNat_natCast]
      have hnP : ¬ P ≤ n := by omega
      have hn2 : n < 2048 := by omega
      have HS := Lib.hid hs
      have HLL := Lib.hid (And.intro hlen (show L ≤ 10 by omega))
      obtain ⟨wB, HB⟩ := nm ((eB 16).new 24 ((eB 16).new 24 ((eB 16).new 24 w x) z16N) x)
      have a0 : (eB 16).at_ wB (w.heap.size + 1 + 1) 0 = some x := by rw [HB.out]; simp
      have b0 : okA wB (w.heap.size + 1 + 1) 0 16 = true := by rw [HB.out]; simp
      have b1 : okA wB (w.heap.size + 1) 0 16 = true := by rw [HB.out]; simp
      have b2 : w.heap.size + 3 ≤ wB.heap.size := by rw [HB.out]; simp
      have hF : Fr0 w wB := by rw [HB.out]; exact (((Fr.refl (fun _ => False) w).newE _ _ _).newE _ _ _).newE _ _ _
      have H := Lib.hid (And.intro a0 (And.intro b0 (And.intro b1 (And.intro b2 hF))))
      clear hs hlen a0 b0 b1 b2 hF
      go_enter Try.func26, Try.ntmps26
      go_wp2_with fail
      rw [← HB.out]
      clear HB
      go_loopw [9, 11, 12] (fun v j _ wr => ∃ k A2 c2, j = .int .i64 (k : Nat) ∧ v = .slice A2 k c2 ∧ k ≤ L ∧ k ≤ c2 ∧ c2 ≤ maxLen ∧ (eB 16).at_ wr (w.heap.size + 1 + 1) 0 = some (atY x n p k) ∧ okA wr (w.heap.size + 1 + 1) 0 16 = true ∧ okA wr (w.heap.size + 1) 0 16 = true ∧ RowKit.Hid (e2.Own 25 wr (w.heap.size + 3) A2 c2 k (prsY x n p k)) ∧ RowKit.Hid (Fr0 w wr) ∧ RowKit.Hid (w.heap.size + 3 ≤ wr.heap.size)) (fun _ v _ _ => 20 - (intOf v).toNat)
      case atStart => exact ⟨0, none, 0, rfl, rfl, by omega, by omega, by unfold maxLen; omega, H.out.1, H.out.2.1, H.out.2.2.1, Lib.hid (Enc.Own.nil _ _ _ _), Lib.hid H.out.2.2.2.2, Lib.hid H.out.2.2.2.1⟩
      case round =>
      obtain ⟨k, A2, c2, rfl, rfl, hk, q3, q4, ha, ho1, ho2, HO, HF, HG0⟩ := hrel
      have HG := Lib.hid (And.intro HG0.out HLL.out)
      by_cases hlt : k < L
      rotate_left
      · obtain rfl : L = k := by omega
        have hf' := HF.out
        go_wp2_with fail
        go_region
        go_wp2_with fail
        exact bodyPost_E3m (eB 16) (x := atY x n p L) rfl Try.underlying24 rfl einfo_bulletin_bulletinref06_N (by rfl) ((eB 16).at_put (by simpa using ho2)) rfl ⟨_, _, rfl, (HO.out.frS ((Fr.refl (fun b => b = w.heap.size + 1) _).drew.putE (eB 16) (fun _ => rfl) 0 _) (fun b hb => by omega)).mono (by omega), (HF.out.drew.fin (eB 16) (by omega) 0 _)⟩
      have z2 : (k : Int) < (L : Int) := by omega
      obtain ⟨b, off, rfl, hbB, hbs, hx⟩ := HS.out.atq (by have := HLL.out; omega)
      obtain ⟨y, hy⟩ : ∃ y, p[k]? = some y := ⟨_, List.getElem?_eq_getElem (by have := HLL.out; omega)⟩
      have hat := ((eB 16).at_fr HF.out _ _ hbs).trans (hx k y hy)
      obtain ⟨a, HA⟩ := nm (atY x n p k)
      rw [← HA.out] at ha
      have hblt : b < wr.heap.size := (eB 16).at_lt hat
      have hglt : w.heap.size + 1 + 1 < wr.heap.size := (eB 16).at_lt ha
      have hshr := shr_nat n k (by have := HLL.out; omega)
      have hshr2 := shr_nat2 n k
      have hj2 : n >>> k ≤ n := Nat.shiftRight_le n k
      have HY := Lib.hid hy
      clear hx hy
      go_wp2_with fail
      refine reg_start (by kernel_rfl) ?_
      refine reg_uno (D := [some 34, some 35, some 36, some 37, some 38, some 39, some 12, none]) (J := [0, 1, 2, 3, 4, 5, 6]) 7 [] [PV ((eB 16).v a), PV (.slice (some ⟨b, off, none⟩) L c), PV (.int .i64 (k : Int)), PV (.pointer (some ⟨b, off + k * 16, none⟩)), PV ((eB 16).v y), PV (e2.v (a, y)), PB (wr.heap.size) 25 ((e2.f z2N).toArray)] TT26 (by kernel_rfl) (by kernel_rfl) (by kernel_rfl) rfl rfl rfl
        (stab_cons (PV.stab _) (stab_cons (PV.stab _) (stab_cons (PV.stab _) (stab_cons (PV.stab _) (stab_cons (PV.stab _) (stab_cons (PV.stab _) (stab_cons (PB.stab _ _ _) stab_nil)))))))
        (fun v => usteps_cons ?_ (usteps_cons ?_ (usteps_cons ?_ (usteps_cons ?_ (usteps_cons ?_ (usteps_cons ?_ (usteps_cons ?_ (usteps_nil)))))))) (fun v wx hx hP hA => ?_)
      · refine ustep_mk (D := [some 34, some 35, some 36, some 37, some 38, some 39, some 12, none]) (Ti := []) rfl rfl rfl rfl (fun wx hx hP => ?_)   -- 0: load 24 (tmp 10)
        have hld := ((eB 16).at_fr ((Fr.drew (Fr.refl _ _)).trans hx) _ _ hglt).trans ha
        clear hP
        simp only [putD, List.getD_cons_zero, List.getD_cons_succ]
        go_wp2_with fail
        exact Q1.mk rfl _ rfl ⟨Fr.refl _ _, rfl, frok_no rfl⟩
      · refine ustep_mk (D := [some 34, some 35, some 36, some 37, some 38, some 39, some 12, none]) (Ti := []) rfl rfl rfl rfl (fun wx hx hP => ?_)   -- 1: move (tmp 2)
        clear hP
        simp only [putD, List.getD_cons_zero, List.getD_cons_succ]
        go_wp2_with fail
        exact Q1.mk rfl _ rfl ⟨Fr.refl _ _, rfl, frok_no rfl⟩
      · refine ustep_mk (D := [some 34, some 35, some 36, some 37, some 38, some 39, some 12, none]) (Ti := []) rfl rfl rfl rfl (fun wx hx hP => ?_)   -- 2: move (tmp 11)
        clear hP
        simp only [putD, List.getD_cons_zero, List.getD_cons_succ]
        go_wp2_with fail
        exact Q1.mk rfl _ rfl ⟨Fr.refl _ _, rfl, frok_no rfl⟩
      · refine ustep_mk (D := [some 34, some 35, some 36, some 37, some 38, some 39, some 12, none]) (Ti := [1, 2]) rfl rfl rfl rfl (fun wx hx hP => ?_)   -- 3: indexAddr 33 (tmp 35) (tmp 36)
        have h1 : v 1 = .slice (some ⟨b, off, none⟩) L c := hP.1
        have h2 : v 2 = .int .i64 (k : Int) := hP.2.1
        clear hP
        simp only [putD, List.getD_cons_zero, List.getD_cons_succ]
        go_wp2_with fail
        exact Q1.mk rfl _ rfl ⟨Fr.refl _ _, rfl, frok_no rfl⟩
      · refine ustep_mk (D := [some 34, some 35, some 36, some 37, some 38, some 39, some 12, none]) (Ti := [1, 2, 3]) rfl rfl rfl rfl (fun wx hx hP => ?_)   -- 4: load 24 (tmp 37)
        have h1 : v 1 = .slice (some ⟨b, off, none⟩) L c := hP.1
        have h2 : v 2 = .int .i64 (k : Int) := hP.2.1
        have h3 : v 3 = .pointer (some ⟨b, off + k * 16, none⟩) := hP.2.2.1
        have hld := ((eB 16).at_fr ((Fr.drew (Fr.refl _ _)).trans hx) _ _ hblt).trans hat
        clear hP
        simp only [putD, List.getD_cons_zero, List.getD_cons_succ]
        go_wp2_with fail
        exact Q1.mk rfl _ rfl ⟨Fr.refl _ _, rfl, frok_no rfl⟩
      · refine ustep_mk (D := [some 34, some 35, some 36, some 37, some 38, some 39, some 12, none]) (Ti := [0, 1, 2, 3, 4]) rfl rfl rfl rfl (fun wx hx hP => ?_)   -- 5: build 25 #[(0, tmp 34), (1, tmp 38)]
        have h0 : v 0 = (eB 16).v a := hP.1
        have h1 : v 1 = .slice (some ⟨b, off, none⟩) L c := hP.2.1
        have h2 : v 2 = .int .i64 (k : Int) := hP.2.2.1
        have h3 : v 3 = .pointer (some ⟨b, off + k * 16, none⟩) := hP.2.2.2.1
        have h4 : v 4 = (eB 16).v y := hP.2.2.2.2.1
        clear hP
        simp only [putD, List.getD_cons_zero, List.getD_cons_succ]
        go_wp2_with fail
        exact Q1.mk rfl _ rfl ⟨Fr.refl _ _, rfl, frok_no rfl⟩
      · refine ustep_mk (D := [some 34, some 35, some 36, some 37, some 38, some 39, some 12, none]) (Ti := []) rfl rfl rfl rfl (fun wx hx hP => ?_)   -- 6: alloc 25
        have hle : wr.heap.size ≤ wr.drew.heap.size := Nat.le_refl _
        clear hP
        simp only [putD, List.getD_cons_zero, List.getD_cons_succ]
        go_wp2_with fail
        exact Q1.mk rfl _ rfl ⟨(Fr.refl _ _).alloc _, pb_new (Nat.le_trans hle hx.size), frok_new⟩
      have h0 : v 0 = (eB 16).v a := hP.1
      have h1 : v 1 = .slice (some ⟨b, off, none⟩) L c := hP.2.1
      have h2 : v 2 = .int .i64 (k : Int) := hP.2.2.1
      have h3 : v 3 = .pointer (some ⟨b, off + k * 16, none⟩) := hP.2.2.2.1
      have h4 : v 4 = (eB 16).v y := hP.2.2.2.2.1
      have h5 : v 5 = e2.v (a, y) := hP.2.2.2.2.2.1
      obtain ⟨g6, h6, hg6, hb6⟩ : PB (wr.heap.size) 25 ((e2.f z2N).toArray) (v 6) wx := hP.2.2.2.2.2.2.1
      have hfx : Fr0 wr wx := (Fr.drew (Fr.refl _ _)).trans hx
      have hok : okA wx g6 0 32 = true := hb6.ok (e2.size _)
      clear hx hA
      clear hP
      simp only [putD, List.getD_cons_zero, List.getD_cons_succ]
      refine reg_seq' 64 1 TT26 (by kernel_rfl) (by kernel_rfl) ?_
      simp only [List.drop_succ_cons, List.drop_zero, List.take_succ_cons, List.take_zero]
      go_wp2_with fail
      refine QR.mk ?_
      refine reg_end (by decide) ?_
      have hhb : (eB 16).at_ (e2.put wx g6 0 (a, y)) b (off + k * 16) = some y := by rw [(eB 16).at_putFar _ _ (by omega), (eB 16).at_fr hfx _ _ hblt]; exact hat
      have hha : (eB 16).at_ (e2.put wx g6 0 (a, y)) (w.heap.size + 1 + 1) 0 = some a := by rw [(eB 16).at_putFar _ _ (by omega), (eB 16).at_fr hfx _ _ hglt]; exact ha
      have HG6 := Lib.hid hg6
      obtain ⟨j, HJ⟩ := nm (n >>> k)
      rw [← HJ.out] at hshr hshr2 hj2
      have htm := tmod2 j
      rcases Nat.mod_two_eq_zero_or_one j with hb | hb
      · rw [hb] at htm
        have hbit : Mk.bit n k = false := by unfold Mk.bit; rw [← HJ.out, hb]; rfl
        have hpair : pairY x n p k = (a, y) := by unfold pairY Mk.pairN; rw [hbit, if_neg (by decide), HA.out]; simp [List.getD, HY.out]
        obtain ⟨wv, HV⟩ := nm (e2.put wx g6 0 (a, y))
        have HB1 := Lib.hid (show e2.at_ wv g6 0 = some (pairY x n p k) by rw [HV.out, hpair]; exact e2.at_put hok)
        have HFV := Lib.hid (show Fr0 wr wv by rw [HV.out]; exact hfx.fin e2 hg6 0 _)
        rw [← HV.out]
        clear hpair hhb hha hfx hok hb6 hg6 HV
        have hld := HB1.out
        have hld2 := eP_at HB1.out
        obtain ⟨hp1, hp2⟩ := hld2
        rw [Nat.zero_add] at hp2
        obtain ⟨A3, c3, w3, hrun, ho3, hf3, q5, q6⟩ := Enc.Own.app1x eapok____2_bulletinref06_N (by omega) HO.out HFV.out HG.out.1 (pairY x n p k) (by omega) (by unfold maxLen; omega)
        have hq1 := ((eB 16).at_frS hf3 _ _ ((eB 16).at_lt hp1) (fun h => by have := HG6.out; omega)).trans hp1
        have hq2 := ((eB 16).at_frS hf3 _ _ ((eB 16).at_lt hp2) (fun h => by have := HG6.out; omega)).trans hp2
        have o10 : okA w3 (w.heap.size + 1 + 1) 0 16 = true := by rw [okA_frS hf3 _ _ _ (by have := HFV.out.size; omega) (fun h => by omega), okA_fr HFV.out _ _ _ hglt]; exact ho1
        have o7 : okA w3 (w.heap.size + 1) 0 16 = true := by rw [okA_frS hf3 _ _ _ (by have := HFV.out.size; omega) (fun h => by omega), okA_fr HFV.out _ _ _ (by omega)]; exact ho2
        have HO3 := Lib.hid ho3
        have HF3 := Lib.hid ((HF.out.trans HFV.out).then_ (S := fun _ => False) hf3 (fun i hi h => by omega))
        have HOK := Lib.hid (And.intro o10 o7)
        have HS3 := Lib.hid (show w.heap.size + 1 + 1 < w3.heap.size ∧ w.heap.size + 3 ≤ w3.heap.size by have := hf3.size; have := HFV.out.size; have := HG.out; omega)
        clear ho3 hf3 hp1 hp2 o10 o7
        go_wp2_with fail
        refine (rjoin_any ((k : Int) + 1) _ _ w3).mono ?_
        rintro e w5 ⟨rfl, hf5⟩
        have o5 : okA w5 (w.heap.size + 1 + 1) 0 16 = true := by rw [okA_fr hf5 _ _ _ HS3.out.1]; exact HOK.out.1
        have o5' : okA w5 (w.heap.size + 1) 0 16 = true := by rw [okA_fr hf5 _ _ _ (by have := HS3.out.1; omega)]; exact HOK.out.2
        have HJO := Lib.hid (show atY x n p (k + 1) = joinY ((k : Int) + 1) (pairY x n p k).1 (pairY x n p k).2 by rw [← jn_succ]; exact Mk.atN_pair jn x n p k)
        have HF5 := Lib.hid (HF3.out.trans hf5)
        have HO5 := Lib.hid (And.intro (HO3.out.fr0 hf5) (And.intro o5 o5'))
        have HS5 := Lib.hid (show w.heap.size + 3 ≤ w5.heap.size by have := hf5.size; have := HS3.out; omega)
        clear hld hq1 hq2 hf5 o5' hrun
        go_wp2_with fail
        go_roundw
        case rel =>
          refine ⟨k + 1, A3, c3, by go_num, rfl, by omega, q5, q6, by rw [HJO.out]; exact (eB 16).at_put HO5.out.2.1, by rw [(eB 16).okA_put HO5.out.2.1]; exact HO5.out.2.1, by rw [(eB 16).okA_put HO5.out.2.1]; exact HO5.out.2.2, Lib.hid ?_, Lib.hid (HF5.out.fin (eB 16) (by omega) 0 _), Lib.hid (by simpa using HS5.out)⟩
          rw [prsY_succ]
          exact HO5.out.1.frS ((Fr.refl (fun b => b = w.heap.size + 1 + 1) _).putE (eB 16) (fun _ => rfl) 0 _) (fun b hb => by omega)
        case measure => have := HLL.out; simp [intOf]; omega
      · rw [hb] at htm
        have hbit : Mk.bit n k = true := by unfold Mk.bit; rw [← HJ.out, hb]; rfl
        have hpair : pairY x n p k = (y, a) := by unfold pairY Mk.pairN; rw [hbit, if_pos rfl, HA.out]; simp [List.getD, HY.out]
        have hok2 : okA (e2.put wx g6 0 (a, y)) g6 0 32 = true := by rw [e2.okA_put hok]; exact hok
        go_wp2_with fail
        go_region
        obtain ⟨wv, HV⟩ := nm (e2.put (e2.put wx g6 0 (a, y)).drew g6 0 (y, a))
        have HB1 := Lib.hid (show e2.at_ wv g6 0 = some (pairY x n p k) by rw [HV.out, hpair]; exact e2.at_put (by simpa using hok2))
        have HFV := Lib.hid (show Fr0 wr wv by rw [HV.out]; exact (hfx.fin e2 hg6 0 _).drew.fin e2 hg6 0 _)
        rw [← HV.out]
        clear hpair hhb hha hfx hok hok2 hb6 hg6 HV
        have hld := HB1.out
        have hld2 := eP_at HB1.out
        obtain ⟨hp1, hp2⟩ := hld2
        rw [Nat.zero_add] at hp2
        obtain ⟨A3, c3, w3, hrun, ho3, hf3, q5, q6⟩ := Enc.Own.app1x eapok____2_bulletinref06_N (by omega) HO.out HFV.out HG.out.1 (pairY x n p k) (by omega) (by unfold maxLen; omega)
        have hq1 := ((eB 16).at_frS hf3 _ _ ((eB 16).at_lt hp1) (fun h => by have := HG6.out; omega)).trans hp1
        have hq2 := ((eB 16).at_frS hf3 _ _ ((eB 16).at_lt hp2) (fun h => by have := HG6.out; omega)).trans hp2
        have o10 : okA w3 (w.heap.size + 1 + 1) 0 16 = true := by rw [okA_frS hf3 _ _ _ (by have := HFV.out.size; omega) (fun h => by omega), okA_fr HFV.out _ _ _ hglt]; exact ho1
        have o7 : okA w3 (w.heap.size + 1) 0 16 = true := by rw [okA_frS hf3 _ _ _ (by have := HFV.out.size; omega) (fun h => by omega), okA_fr HFV.out _ _ _ (by omega)]; exact ho2
        have HO3 := Lib.hid ho3
        have HF3 := Lib.hid ((HF.out.trans HFV.out).then_ (S := fun _ => False) hf3 (fun i hi h => by omega))
        have HOK := Lib.hid (And.intro o10 o7)
        have HS3 := Lib.hid (show w.heap.size + 1 + 1 < w3.heap.size ∧ w.heap.size + 3 ≤ w3.heap.size by have := hf3.size; have := HFV.out.size; have := HG.out; omega)
        clear ho3 hf3 hp1 hp2 o10 o7
        go_wp2_with fail
        refine (rjoin_any ((k : Int) + 1) _ _ w3).mono ?_
        rintro e w5 ⟨rfl, hf5⟩
        have o5 : okA w5 (w.heap.size + 1 + 1) 0 16 = true := by rw [okA_fr hf5 _ _ _ HS3.out.1]; exact HOK.out.1
        have o5' : okA w5 (w.heap.size + 1) 0 16 = true := by rw [okA_fr hf5 _ _ _ (by have := HS3.out.1; omega)]; exact HOK.out.2
        have HJO := Lib.hid (show atY x n p (k + 1) = joinY ((k : Int) + 1) (pairY x n p k).1 (pairY x n p k).2 by rw [← jn_succ]; exact Mk.atN_pair jn x n p k)
        have HF5 := Lib.hid (HF3.out.trans hf5)
        have HO5 := Lib.hid (And.intro (HO3.out.fr0 hf5) (And.intro o5 o5'))
        have HS5 := Lib.hid (show w.heap.size + 3 ≤ w5.heap.size by have := hf5.size; have := HS3.out; omega)
        clear hld hq1 hq2 hf5 o5' hrun
        go_wp2_with fail
        go_roundw
        case rel =>
          refine ⟨k + 1, A3, c3, by go_num, rfl, by omega, q5, q6, by rw [HJO.out]; exact (eB 16).at_put HO5.out.2.1, by rw [(eB 16).okA_put HO5.out.2.1]; exact HO5.out.2.1, by rw [(eB 16).okA_put HO5.out.2.1]; exact HO5.out.2.2, Lib.hid ?_, Lib.hid (HF5.out.fin (eB 16) (by omega) 0 _), Lib.hid (by simpa using HS5.out)⟩
          rw [prsY_succ]
          exact HO5.out.1.frS ((Fr.refl (fun b => b = w.heap.size + 1 + 1) _).putE (eB 16) (fun _ => rfl) 0 _) (fun b hb => by omega)
        case measure => have := HLL.out; simp [intOf]; omega
    · rw [show (if 0 ≤ i ∧ i < (P : Int) then (0 : Int) else 8) = 8 from if_neg h23, if_neg (by omega), if_neg (by omega)]
      clear hs hlen
      by_cases h2 : 0 ≤ i
      · have h3 : ¬ i < (P : Int) := fun h => h23 ⟨h2, h⟩
        go_enter Try.func26, Try.ntmps26
        go_wp2_with fail
        exact bodyPost_E3m (eB 16) (x := z16N) rfl Try.underlying24 rfl einfo_bulletin_bulletinref06_N (by rfl) (by simp) rfl ⟨_, _, rfl, Enc.Own.nil _ _ _ _, ((Fr.refl _ _).newE _ _ _).newE _ _ _⟩
      · go_enter Try.func26, Try.ntmps26
        go_wp2_with fail
        exact bodyPost_E3m (eB 16) (x := z16N) rfl Try.underlying24 rfl einfo_bulletin_bulletinref06_N (by rfl) (by simp) rfl ⟨_, _, rfl, Enc.Own.nil _ _ _ _, ((Fr.refl _ _).newE _ _ _).newE _ _ _⟩
end Go.Proofs.Ytnholkjgdpapbaa
