/- Sha256Write: the walk. No condition. -/
import Derived.Test.YtndcofoilglpjaaClo
namespace Go.Proofs.Ytndcofoilglpjaa
set_option linter.unusedVariables false
set_option linter.unusedSimpArgs false
open Go.RowKit Go.ChangeShapes Go.WideShapes Go.Deep
attribute [local go_sem ↓] Go.wp_at_zero Go.wp_at_succ

/-- A slice of bytes that came in with the world w, and what it reads. -/
def Piece (w : World) : Type := { p : Value × List UInt8 // Rd w w.heap.size p.1 p.2 }
instance (w : World) : Inhabited (Piece w) := ⟨⟨(.slice none 0 0, []), Rd.nil _ _⟩⟩
def pieC {w : World} (p : Piece w) : List Value := [p.1.1]
@[simp] theorem pieC_length {w : World} (p : Piece w) : (pieC p).length = 1 := rfl
theorem open_piece {H : Type} {enc : TypeId × Value → H} {w : World} {base : Nat} {spare : Nat → Bool} {held : Bool} {fuel : Nat} {cs : List Value} {x : DataW H × List MemPlace} (h : DataW.trod enc Try.prog w base spare held fuel 22 cs = some x) : ∃ o : Piece w, cs = pieC o := by
  have key : ∃ A n c, cs = [Value.slice A n c] := by
    rcases open_slice Try.underlying22 h with ⟨hcs, _⟩ | ⟨x, l, c, m, n, D, Pl, hcs, _⟩
    · exact ⟨none, 0, 0, hcs⟩
    · exact ⟨some x, l, c, hcs⟩
  obtain ⟨A, n, c, rfl⟩ := key
  obtain ⟨d, p⟩ := x
  obtain ⟨l, hl, ha⟩ := open_list (P := Try.prog) (d := d) (p := p) u8C Try.underlying22 (show Try.prog.cellsOf 5 = 1 by kernel_rfl) (by simp) (by omega) (fun _ _ _ hh => open_u8C hh) ⟨fuel, h⟩
  exact ⟨⟨(.slice A n c, l), by subst hl; exact arg_rd ha⟩, rfl⟩
theorem flat_pie {w : World} (l : List (Piece w)) : l.flatMap pieC = l.map (·.1.1) := by
  induction l with
  | nil => rfl
  | cons x l ih => simp only [List.flatMap_cons, ih, pieC, List.map_cons, List.singleton_append]
/-- The first k pieces, each cut, one behind the other. -/
def allB {w : World} (l : List (Piece w)) (k : Nat) : List UInt8 := (l.take k).flatMap (fun p => p.1.2.take 500)
theorem allB_succ {w : World} (l : List (Piece w)) (k : Nat) (h : k < l.length) : allB l (k + 1) = allB l k ++ l[k].1.2.take 500 := by
  unfold allB
  rw [List.take_succ_eq_append_getElem h, List.flatMap_append]; simp only [List.flatMap_cons, List.flatMap_nil, List.append_nil]
theorem allB_len {w : World} (l : List (Piece w)) (k : Nat) : (allB l k).length ≤ k * 500 := by
  induction k with
  | zero => simp [allB]
  | succ k ih =>
    rcases Nat.lt_or_ge k l.length with h | h
    · rw [allB_succ l k h, List.length_append]
      have := cut_len l[k].1.2
      omega
    · have : allB l (k + 1) = allB l k := by unfold allB; rw [List.take_of_length_le (by omega), List.take_of_length_le h]
      rw [this]; exact Nat.le_trans ih (Nat.mul_le_mul_right _ (Nat.le_succ k))

theorem own_set {w : World} {base e n g cap : Nat} {xs : List Value} (h : w.ownsRow base e 1 (.slice (some ⟨g, 0, none⟩) n cap) n xs) (o : Nat) (u : Value) :
    (w.setCell ⟨g, o, none⟩ u).ownsRow base e 1 (.slice (some ⟨g, 0, none⟩) n cap) n (xs.set o u) := by
  obtain ⟨hl, ⟨h', _⟩ | ⟨g', cap', cur, hv, hg, hh, hnc, hcm, hcs, ht⟩⟩ := h
  · cases h'
  · injection hv with h1 _ h3
    injection h1 with h1
    injection h1 with h1
    subst h1; subst h3
    refine ⟨by simpa using hl, .inr ⟨g, cap, cur.setIfInBounds o u, rfl, hg, ?_, hnc, hcm, by simpa using hcs, ?_⟩⟩
    · simp [World.setCell, Array.getElem?_modify, hh]
    · rw [← ht, Array.toList_setIfInBounds, List.take_set]
theorem own_cell8 {w : World} {base n cap : Nat} {A : Option Addr} {q : List UInt8} {j : Nat} {x : UInt8} (h : w.ownsRow base 5 1 (.slice A n cap) n (bs q)) (hj : j < n) (hx : q[j]? = some x) :
    ∃ g, A = some ⟨g, 0, none⟩ ∧ w.cell? ⟨g, j, none⟩ = some (u8 x) ∧ w.frozen? ⟨g, j, none⟩ = false := by
  obtain ⟨hl, ⟨h', _⟩ | ⟨g, cap', cur, hv, hg, hh, hnc, hcm, hcs, ht⟩⟩ := h
  · injection h' with _ h1 _; omega
  · injection hv with h1 _ h3
    subst h1; subst h3
    refine ⟨g, rfl, ?_, by simp [World.frozen?, hh]⟩
    have h2 : (bs q)[j]? = some (u8 x) := by simp [bs, hx]
    rw [← ht, List.getElem?_take] at h2
    split at h2
    · simp [World.cell?, hh]; simpa using h2
    · cases h2

theorem wrap8n (n : Nat) : IntKind.u8.wrap (n : Int) = ((n % 256 : Nat) : Int) := by simp [IntKind.wrap, IntKind.bits, IntKind.signed]
theorem back8 (x : BitVec 8) : IntKind.u8.wrap (x.toNat : Int) = (x.toNat : Int) := by rw [wrap8n, Nat.mod_eq_of_lt x.isLt]
theorem ofInt8n (n : Nat) (h : n < 256) : BitVec.ofInt IntKind.u8.bits (n : Int) = BitVec.ofNat 8 n := by
  show BitVec.ofInt 8 _ = _
  apply BitVec.eq_of_toNat_eq; simp
@[go_sem ↓] theorem run8_not (w : World) (a : UInt8) : (Op.unary .xor (Proofs.Ytndcofoilglpjaa.u8 a)).run Try.prog w = .ok (Proofs.Ytndcofoilglpjaa.u8 (~~~a)) w := by
  have : IntKind.u8.wrap ((BitVec.ofInt IntKind.u8.bits (255 : Int) ^^^ BitVec.ofInt IntKind.u8.bits (a.toNat : Int) : BitVec IntKind.u8.bits).toNat : Int) = ((~~~a).toNat : Int) := by
    rw [ofInt8n _ a.toNat_lt]
    show IntKind.u8.wrap ((BitVec.ofInt 8 255 ^^^ BitVec.ofNat 8 a.toNat : BitVec 8).toNat : Int) = _
    have e : BitVec.ofInt 8 255 = BitVec.allOnes 8 := by decide
    rw [e, BitVec.allOnes_xor, back8]
    simp
  unfold Proofs.Ytndcofoilglpjaa.u8 Op.unary
  simp only [Op.intBits]
  show Sem.run _ (pure (Value.int IntKind.u8 (IntKind.u8.wrap ((BitVec.ofInt IntKind.u8.bits (255 : Int) ^^^ BitVec.ofInt IntKind.u8.bits (a.toNat : Int) : BitVec IntKind.u8.bits).toNat : Int)))) w = _
  rw [this]; rfl
theorem run_dig_nesame (w : World) (l : List UInt8) (hl : l.length = 32) : (nev 25 (.agg (bs l).toArray) (.agg (bs l).toArray)).run Try.prog w = .ok (.bool false) w := by
  have h := run_neq_flat w 3 dig_kinds (by omega) val_bulletin_sha256_Digest (bs l) (bs l) (by_fits ⟨l, hl⟩) (by_fits ⟨l, hl⟩)
  have h2 := sames_by (⟨l, hl⟩ : By 32) ⟨l, hl⟩
  rw [h2] at h
  simp only [decide_true, Bool.not_true] at h
  exact h

set_option maxHeartbeats 4000000 in
theorem write_walk (w : World) (l : List (Piece w)) (A : Option Addr) (c : Nat) (ha : Arg w w.heap.size A l.length c 1 (l.flatMap pieC)) :
    Calls Try.prog 6 #[.slice A l.length c] w fun e w' => e = .returned (.bool true) ∧ Below w.heap.size w w' := by
  have hcap := ha.cap
  have hmax := ha.max
  unfold maxLen at hmax
  have HA := Lib.hid ha
  have hne := fun w => run_a32_nesame w (sumB []) (sumB_length [])
  obtain ⟨n, hn⟩ : ∃ n, n = l.length := ⟨_, rfl⟩
  rw [← hn] at hcap ⊢
  obtain ⟨m, hm⟩ : ∃ m, m = min n 12 := ⟨_, rfl⟩
  have hmm : min (n : Int) 12 = (m : Int) := by omega
  have HM := Lib.hid (show m = min l.length 12 by omega)
  have HN := Lib.hid hn
  have hm0 : (0 : Int) ≤ (m : Int) := by omega
  have hmc : m ≤ c := by omega
  have hmn : m ≤ n := by omega
  clear ha hm hn
  go_enter Try.func6, Try.ntmps6
  go_wp2_with fail
  all_goals
    first
    | rw [show Value.slice A 12 c = Value.slice A m c by rw [show m = 12 by omega]]
    | rw [show Value.slice A n c = Value.slice A m c by rw [show m = n by omega]]
    clear h hmm
    refine (hnew_any _).mono ?_
    rintro e w1 ⟨g, rfl, hg, hh, hf1⟩
    have HG := Lib.hid hg
    have HH1 := Lib.hid (hh 0)
    have HB1 := Lib.hid (Fr0.below hf1)
    clear hg hh hf1
    go_wp2_with fail
    refine (hlen_any g _ _ _ HH1.out.n).mono ?_
    rintro e w2 ⟨rfl, rfl⟩
    go_wp2_with fail
    refine (hsum_any g _ _ HH1.out.n (by simp)).mono ?_
    rintro e w2 ⟨rfl, hf2⟩
    have HF2 := Lib.hid hf2
    clear hf2
    go_wp2_with fail
    refine (rsum_any [] 0 _ w2 (Rd.nil _ _) (by simp)).mono ?_
    rintro e w3 ⟨rfl, hf3⟩
    have HH3 := Lib.hid (HH1.out.fr0 (HF2.out.trans hf3))
    have HB3 := Lib.hid (HB1.out.trans ((HF2.out.trans hf3).belowB5 HB1.out.size (fun _ _ h => h)))
    clear hf3 HF2 HB1 HH1
    go_wp2_with fail
    clear hne
    go_loopw [4, 5] (fun vv iv wr => ∃ k : Nat, k ≤ m ∧ iv = .int .i64 k ∧ wr.ownsRow w3.heap.size 5 1 vv (allB l k).length (bs (allB l k)) ∧ (∃ lo, HashF wr g (allB l k) (allB l k).length lo ∧ ∀ i, vv.ownBlock = some i → i < lo) ∧ Below w.heap.size w wr ∧ w3.heap.size ≤ wr.heap.size) (fun _ iv _ => m - (intOf iv).toNat)
    case atStart => exact ⟨0, by omega, rfl, own_nil8 _ _, ⟨0, HH3.out, fun i hi => by cases hi⟩, HB3.out, Nat.le_refl _⟩
    case round =>
      obtain ⟨k, hk, rfl, hown, ⟨lo, hH, hlo⟩, hB, hsz⟩ := hrel
      obtain ⟨Ar, cr, rfl, hc1, hc2⟩ := own_form hown
      by_cases hlt : k < m
      · have z0 : (k : Int) < (m : Int) := by omega
        have hkl : k < l.length := by have := HN.out; omega
        obtain ⟨b0, off, hA, hb0, hx⟩ := HA.out.at_ (by omega)
        subst hA
        obtain ⟨vp, hvp⟩ : ∃ v, v = l[k].1.1 := ⟨_, rfl⟩
        obtain ⟨q, hqq⟩ : ∃ q, q = l[k].1.2 := ⟨_, rfl⟩
        have hq : Rd w w.heap.size vp q := by rw [hvp, hqq]; exact l[k].2
        have hcell := (hB.cell (p := ⟨b0, off + k, none⟩) hb0).trans (hx k vp (by rw [flat_pie, List.getElem?_map, List.getElem?_eq_getElem hkl, hvp]; rfl))
        clear hvp hx
        obtain ⟨Ap, cp, rfl, hp1, hp2⟩ := hq.form
        have hcell2 := cell_alloc hcell (.cells #[] 5)
        have HQ := Lib.hid (hq.below hB)
        have HQQ := Lib.hid hqq
        have HO := Lib.hid hown
        have HH := Lib.hid hH
        have HLO := Lib.hid hlo
        have HGW := Lib.hid (show g < w3.heap.size from HH3.out.lt)
        have HB := Lib.hid hB
        have HSZ := Lib.hid hsz
        have HAL := Lib.hid (allB_len l k)
        obtain ⟨La, hLa⟩ : ∃ La, La = (allB l k).length := ⟨_, rfl⟩
        rw [← hLa] at hc1 ⊢
        have HLA := Lib.hid hLa
        clear hq hqq hown hH hB hsz hLa hlo
        go_wp2_with fail
        refine (cut_any q _ Ap _ cp _ (HQ.out.alloc (.cells #[] 5))).mono ?_
        rintro e w4 ⟨rfl, hr, rfl⟩
        have hql := cut_len q
        obtain ⟨q', hq'⟩ : ∃ a', a' = q.take 500 := ⟨_, rfl⟩
        rw [← hq'] at hr hql ⊢
        have hL1 : allB l k ++ q' = allB l (k + 1) := by rw [allB_succ l k hkl, hq', HQQ.out]
        have hal := HAL.out
        have hk12 : k ≤ 12 := by have := HM.out; omega
        obtain ⟨A1, c1, w4, hrun1, hown1, hG1, hge1, -⟩ := app_by (wr.alloc (.cells #[] 5)) (own_bs0 wr) hr (by simp; omega) (by simp)
        have hF1 : Fr0 wr w4 := ((Fr.refl _ wr).alloc _).then_ hG1 (fun i hi hk => by have := hge1 i hk; omega)
        rw [List.nil_append] at hrun1 hown1
        obtain ⟨A2, c2, w5, hrun2, hown2, hG2, hge2, hor2⟩ := app_by w4 (own_fr0 HO.out hF1) (Sl.rd (Sl.of_own hown1)) (by omega) (Nat.le_trans HSZ.out hF1.size)
        have hown15 := own_fr hown1 hG2 (fun i hi e => by have := own_ge _ hown1 i hi; have := (HO.out.lt i e).2; omega)
        have hH5 := (HH.out.fr0 hF1).fr hG2 (fun e => by have := own_ge _ HO.out g e; have := HGW.out; omega) (fun i hi e => by have := HLO.out i e; omega)
        have hB5 := HB.out.trans ((hF1.belowB5 HB.out.size (fun _ _ h => h)).trans (hG2.belowB5 (Nat.le_trans HB.out.size hF1.size) (fun i hi e => by have := own_ge _ HO.out i e; have := HB3.out.size; omega)))
        obtain ⟨P, hP⟩ : ∃ P, P = q'.length := ⟨_, rfl⟩
        rw [← hP] at hrun1 hrun2 hown1 hown15 hql ⊢
        rw [← HLA.out] at hrun2
        obtain ⟨M, hM⟩ : ∃ M, M = (allB l k ++ q').length := ⟨_, rfl⟩
        rw [← hM] at hrun2 hown2 hor2
        have hpne : ∀ i, (Value.slice A1 P c1).ownBlock = some i → (Value.slice A2 M c2).ownBlock ≠ some i := fun i h1 h2 => by
          have h3 := own_ge _ hown15 i h1
          have h4 := (hown1.lt i h1).2
          rcases hor2 with h | h
          · rw [h2] at h
            have := (HO.out.lt i h.symm).2
            omega
          · rw [h2] at h; injection h with h; omega
        have HP := Lib.hid hP
        have HM2 := Lib.hid hM
        have HO15 := Lib.hid hown15
        have HO25 := Lib.hid hown2
        have HH5 := Lib.hid hH5
        have HB5 := Lib.hid hB5
        have HS5 := Lib.hid (show w3.heap.size ≤ wr.heap.size ∧ wr.heap.size ≤ w4.heap.size ∧ w4.heap.size ≤ w5.heap.size from ⟨HSZ.out, hF1.size, hG2.size⟩)
        have HPN := Lib.hid hpne
        have HL1 := Lib.hid hL1
        clear hr hq' hown1 hG1 hge1 hF1 hown2 hG2 hge2 hor2 hown15 hH5 hB5 hP hM hpne hL1 hal
        go_wp2_with fail
        refine (write_any g _ (allB l k) q' _ _ HH5.out.n (Sl.rd (Sl.of_own (show w5.ownsRow wr.heap.size 5 1 (.slice A1 P c1) q'.length (bs q') from by rw [← HP.out]; exact HO15.out))) (by have := HP.out; omega) (by have := HAL.out; omega)).mono ?_
        rintro e w6 ⟨rfl, hh, hf6⟩
        have HH6 := Lib.hid hh
        have HO16 := Lib.hid (own_fr HO15.out hf6 (fun i hi e => by have := own_ge _ HO15.out i hi; have := HGW.out; have := HS5.out; omega))
        have HO26 := Lib.hid (own_fr HO25.out hf6 (fun i hi e => by have := own_ge _ HO25.out i hi; have := HGW.out; omega))
        have HB6 := Lib.hid (HB5.out.trans (hf6.belowB5 HB5.out.size (fun i hi e => by have := HG.out; omega)))
        have HPL := Lib.hid (show ∀ i, (Value.slice A1 P c1).ownBlock = some i → wr.heap.size ≤ i ∧ i < w5.heap.size from fun i hi => HO15.out.lt i hi)
        have HPL2 := Lib.hid (show ∀ i, (Value.slice A2 M c2).ownBlock = some i → w3.heap.size ≤ i ∧ i < w5.heap.size from fun i hi => HO25.out.lt i hi)
        have HS6 := Lib.hid hf6.size
        clear hh hf6 hcell hcell2 hrun1 hrun2 hp1 hp2
        go_wp2_with fail
        go_loopw [7] (fun kv wx => ∃ j : Nat, j ≤ P ∧ kv = .int .i64 j ∧ (∃ q2, q2.length = P ∧ wx.ownsRow wr.heap.size 5 1 (.slice A1 P c1) P (bs q2)) ∧ Fr (fun i => (Value.slice A1 P c1).ownBlock = some i) w6 wx) (fun kv _ => P - (intOf kv).toNat)
        case atStart => exact ⟨0, by omega, rfl, ⟨q', HP.out.symm, HO16.out⟩, Fr.refl _ _⟩
        case round =>
          obtain ⟨j, hj, rfl, ⟨q2, hq2, hown⟩, hf⟩ := hrel
          by_cases hlt2 : j < P
          · have z1 : (j : Int) < (P : Int) := by omega
            obtain ⟨x, hx⟩ : ∃ x, q2[j]? = some x := ⟨_, List.getElem?_eq_getElem (by omega)⟩
            obtain ⟨pb, rfl, hpc, hpf⟩ := own_cell8 hown (by omega) hx
            have HO7 := Lib.hid hown
            have HF7 := Lib.hid hf
            have HQ2 := Lib.hid hq2
            clear hown hf hq2
            go_wp2_with fail
            clear hpc hpf
            go_roundw
            case rel =>
              have ho := own_set HO7.out j (Proofs.Ytndcofoilglpjaa.u8 (~~~x))
              have hfx := HF7.out.setCell (p := ⟨pb, j, none⟩) (fun _ => rfl) (Proofs.Ytndcofoilglpjaa.u8 (~~~x))
              have hbs : (bs q2).set j (Proofs.Ytndcofoilglpjaa.u8 (~~~x)) = bs (q2.set j (~~~x)) := by simp [bs, List.map_set]
              rw [hbs] at ho
              first
              | exact ⟨j + 1, by omega, by go_num, ⟨_, by rw [List.length_set]; exact HQ2.out, ho⟩, hfx⟩
              | ((repeat apply Exists.intro); exact ⟨⟨j + 1, by omega, by go_num, ⟨_, by rw [List.length_set]; exact HQ2.out, ho⟩, hfx⟩, rfl⟩)
            case measure => simp [intOf]; omega
          · have hjP : j = P := by omega
            subst hjP
            have HH7 := Lib.hid (HH6.out.fr hf (fun e => by have := HPL.out g e; have := HGW.out; have := HS5.out; omega) (fun i hi e => by have := HPL.out i e; omega))
            have HO27 := Lib.hid (own_fr HO26.out hf (fun i hi e => HPN.out i e hi))
            have HB7 := Lib.hid (HB6.out.trans (hf.belowB5 HB6.out.size (fun i hi e => by have := HPL.out i e; have := HS5.out; have := HB3.out.size; omega)))
            have HS7 := Lib.hid (show w3.heap.size ≤ wr.heap.size from by have := hf.size; have := HS6.out; have := HS5.out; omega)
            clear hown hf
            have HL9 := Lib.hid (show (allB l k ++ q').length ≤ 1000000000 by have := HAL.out; have := HP.out; rw [List.length_append]; omega)
            go_wp2_with fail
            refine (hlen_any g _ _ _ HH7.out.n).mono ?_
            rintro e w8 ⟨rfl, rfl⟩
            rw [← HM2.out]
            have hne := fun w => run_a32_nesame w (sumB (allB l k ++ q')) (sumB_length _)
            have hne2 := fun w => run_dig_nesame w (sumB (allB l k ++ q')) (sumB_length _)
            go_wp2_with fail
            refine (hsum_any g _ _ HH7.out.n HL9.out).mono ?_
            rintro e w8 ⟨rfl, hf⟩
            have HF8 := Lib.hid hf
            clear hf
            go_wp2_with fail
            refine (rsum_any (allB l k ++ q') _ _ _ (Sl.rd (Sl.of_own (show w8.ownsRow w3.heap.size 5 1 (.slice A2 M c2) (allB l k ++ q').length (bs (allB l k ++ q')) from by rw [← HM2.out]; exact own_fr0 HO27.out HF8.out))) HL9.out).mono ?_
            rintro e w9 ⟨rfl, hf⟩
            have HF9 := Lib.hid (HF8.out.trans hf)
            clear hf
            go_wp2_with fail
            refine (hsum_any g _ _ (HH7.out.fr0 HF9.out).n HL9.out).mono ?_
            rintro e w10 ⟨rfl, hf⟩
            have HF10 := Lib.hid (HF9.out.trans hf)
            clear hf
            go_wp2_with fail
            refine (hsum_any g _ _ (HH7.out.fr0 HF10.out).n HL9.out).mono ?_
            rintro e w11 ⟨rfl, hf⟩
            have HF11 := Lib.hid (HF10.out.trans hf)
            clear hf
            go_wp2_with fail
            clear hne hne2
            go_roundw
            case rel =>
              have h1 := own_fr0 HO27.out HF11.out
              have h2 := HH7.out.fr0 HF11.out
              have h3 := HB7.out.trans (HF11.out.belowB5 HB7.out.size (fun _ _ h => h))
              have h4 : w3.heap.size ≤ w11.heap.size := Nat.le_trans HS7.out HF11.out.size
              have h5 := HPL2.out
              have h6 := HM2.out
              rw [HL1.out] at h1 h2 h6
              rw [h6] at h1 h5 ⊢
              first
              | exact ⟨k + 1, by omega, by go_num, h1, ⟨_, h2, fun i hi => (h5 i hi).2⟩, h3, h4⟩
              | ((repeat apply Exists.intro); exact ⟨⟨k + 1, by omega, by go_num, h1, ⟨_, h2, fun i hi => (h5 i hi).2⟩, h3, h4⟩, rfl⟩)
            case measure => simp [intOf]; omega
      · have hkm : k = m := by omega
        subst hkm
        have HB := Lib.hid hB
        clear hown hH hB hsz hlo
        go_wp2_with fail
        refine (known_any _).mono ?_
        rintro e w4 ⟨rfl, hf⟩
        have HB4 := Lib.hid (HB.out.trans (hf.belowB5 HB.out.size (fun _ _ h => h)))
        clear hf
        go_wp2_with fail
        go_ret
        exact ⟨rfl, HB4.out⟩
end Go.Proofs.Ytndcofoilglpjaa
