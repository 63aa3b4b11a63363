/- Chapter 36: the law's model: do, part: Settled. No condition beyond the lengths that are named. -/
import Derived.Test.YtbcconeebjmjdaaModB
import Derived.Deep.CutRange
namespace Go.Proofs.Ytbcconeebjmjdaa
open Go.RowKit
attribute [local go_sem ↓] Go.wp_at_zero Go.wp_at_succ

theorem own_type {w : World} {base e size n k : Nat} {v : Value} {xs : List Value} (h : w.ownsRow base e size v n xs) (hk : v.ownBlock = some k) : ∃ cur, w.heap[k]? = some (Obj.cells cur e (0, 0)) := by
  obtain ⟨hl, ⟨rfl, rfl⟩ | ⟨g', cap, cur, rfl, hg, hh, _⟩⟩ := h
  · simp [Value.ownBlock] at hk
  · simp [Value.ownBlock] at hk
    subst hk
    exact ⟨cur, hh⟩
theorem nset_at (l : List Off) (k : Nat) (hk : k < l.length) (h : isOut l[k] = true) (hno : ∀ j (hj : j < l.length), j < k → isOut l[j] = false) : nset l = k := by
  have : l.findIdx? isOut = some k := by
    rw [List.findIdx?_eq_some_iff_getElem]
    exact ⟨hk, h, fun j hj => by simp [hno j (by omega) hj]⟩
  unfold nset
  rw [this]; rfl
theorem nset_all (l : List Off) (k : Nat) (hk : k = l.length) (hno : ∀ j (hj : j < l.length), j < k → isOut l[j] = false) : nset l = k := by
  have : l.findIdx? isOut = none := by
    rw [List.findIdx?_eq_none_iff]
    intro o ho
    obtain ⟨j, hj, rfl⟩ := List.getElem_of_mem ho
    exact hno j hj (by omega)
  unfold nset
  rw [this, hk]; rfl

set_option maxHeartbeats 4000000 in
set_option maxRecDepth 10000 in
theorem mdo_settled (m : Win) (v : Value) (o : OpM) (w : World) (hs : Sl w 72 34 v m.l.length (offsC m.l)) (hi : Inv m) (hl : m.l.length ≤ 10000) (hk : o.kind.toNat % 5 = 2) :
    Calls Try.prog 33 #[mdV m v, opV o] w (DoPost m o w) := by
  obtain ⟨A, c, rfl, hlc, hcm⟩ := hs.form
  unfold maxLen at hcm
  have HS := Lib.hid hs
  have HI := Lib.hid hi
  clear hs hi
  go_enter Try.func33, Try.ntmps33
  go_wp2_with fail
  obtain ⟨hb0, hb1, hb2, hf3, hz3⟩ := alloc3 w 58 51 58 (mdC m (.slice A m.l.length c)) (opC o).toArray #[.int .i64 0, .slice none 0 0]
  generalize (((w.alloc (.cells (mdC m (.slice A m.l.length c)) 58)).alloc (.cells (opC o).toArray 51)).alloc (.cells #[.int .i64 0, .slice none 0 0] 58)) = w3 at *
  have HS3 := Lib.hid (HS.out.fr0 hf3)
  have HB0 := Lib.hid hb0
  have HB1 := Lib.hid hb1
  have HB2 := Lib.hid hb2
  have HF3 := Lib.hid hf3
  have hc0 := hb0.cell 0
  have hc1 := hb0.cell 1
  simp at hc0 hc1
  have hk0 := hb1.cell 0
  have hk33 := hb1.cell 33
  simp at hk0 hk33
  have hlid := hb1.ldA 1 32 (by simp)
  have hcb0 := cell_alloc (cell_alloc hc0 (.cells #[] 72)) (.cells #[.int .i64 0, .slice none 0 0] 58)
  have hcb1 := cell_alloc (cell_alloc hc1 (.cells #[] 72)) (.cells #[.int .i64 0, .slice none 0 0] 58)
  have hcd0 := cell_alloc hc0 (.cells #[.int .i64 0, .slice none 0 0] 58)
  have hcd1 := cell_alloc hc1 (.cells #[.int .i64 0, .slice none 0 0] 58)
  have hce0 := cell_alloc (cell_alloc hc0 (.cells #[.int .i64 0, .slice none 0 0] 58)) (.cells #[] 72)
  have hce1 := cell_alloc (cell_alloc hc1 (.cells #[.int .i64 0, .slice none 0 0] 58)) (.cells #[] 72)
  have HZ3 := Lib.hid hz3
  have hca0 := cell_alloc hc0 (.cells #[] 72)
  have hca1 := cell_alloc hc1 (.cells #[] 72)
  clear hb0 hb1 hb2 hf3 hz3
  go_cut [8] from 12 to 18 (fun v8 wx => ∃ g A5 c5, v8 = .pointer (some ⟨g, 0, none⟩) ∧ w3.heap.size ≤ g ∧ Blk wx g 58 #[.int .i64 m.size, .slice A5 m.l.length c5] ∧ wx.ownsRow w3.heap.size 72 34 (.slice A5 m.l.length c5) m.l.length (offsC m.l) ∧ Fr0 w3 wx)
  case first =>
    go_region_held_law (fun w' => w'.cell? ⟨w.heap.size, 0, none⟩ = some (.int .i64 m.size) ∧ w'.cell? ⟨w.heap.size, 1, none⟩ = some (.slice A m.l.length c)) (first
      | exact ⟨by assumption, by assumption⟩
      | exact ⟨cell_alloc (by assumption) _, cell_alloc (by assumption) _⟩
      | exact ⟨cell_alloc (cell_alloc (by assumption) _) _, cell_alloc (cell_alloc (by assumption) _) _⟩
      | exact ⟨cell_far (cell_far (by assumption) (by have := HB0.out.lt; dsimp only; omega) _) (by have := HB0.out.lt; dsimp only; omega) _, cell_far (cell_far (by assumption) (by have := HB0.out.lt; dsimp only; omega) _) (by have := HB0.out.lt; dsimp only; omega) _⟩) (first
      | (refine step_app app_off' (by rfl) _ _ (by rfl) (v := .slice (some ⟨_, 0, none⟩) 0 0) (by rfl) (own_empty _ _ _) (by rfl) (m := m.l.length) (news := offsC m.l) (HS3.out.drew.alloc _) (offsC_one m.l) (by unfold maxLen; omega) (by omega) (by simp) ?_
         intro v5 w5 ho5 hg5 hat5
         obtain ⟨A5, c5, rfl, _, _⟩ := own_form ho5
         have hf5 : Fr0 w3 w5 := Fr.app (w := w3.drew.alloc _) (((Fr.refl _ w3).drew).alloc _) hg5 (fun j hj hlt => by simp [Value.ownBlock] at hj; omega)
         have hz0 : w5.cell? ⟨w.heap.size, 0, none⟩ = some (.int .i64 m.size) := (hf5.cell (p := ⟨w.heap.size, 0, none⟩) HB0.out.lt (fun h => h)).trans hc0
         have hz1 : w5.cell? ⟨w.heap.size, 1, none⟩ = some (.slice A m.l.length c) := (hf5.cell (p := ⟨w.heap.size, 1, none⟩) HB0.out.lt (fun h => h)).trans hc1
         have hz1a := cell_alloc hz1 (.cells #[.int .i64 0, .slice none 0 0] 58)
         have hz0a := cell_alloc hz0 (.cells #[.int .i64 0, .slice none 0 0] 58)
         have HF5 := Lib.hid hf5
         have HO5 := Lib.hid ho5
         clear ho5 hg5 hat5 hf5)
      | (refine step_app (w := ((w3.alloc (.cells #[] 72)).alloc (.cells #[.int .i64 0, .slice none 0 0] 58)).drew) app_off' (by rfl) _ _ (by rfl) (v := .slice (some ⟨_, 0, none⟩) 0 0) (by rfl) (own_fr0 (own_empty w3 _ _) (((Fr.refl _ _).alloc _).drew)) (by rfl) (m := m.l.length) (news := offsC m.l) ((HS3.out.alloc _).alloc _) (offsC_one m.l) (by unfold maxLen; omega) (by omega) (by simp <;> omega) ?_
         intro v5 w5 ho5 hg5 hat5
         obtain ⟨A5, c5, rfl, _, _⟩ := own_form ho5
         have hB5 : Blk w5 (w3.heap.size + 1) 58 #[.int .i64 0, .slice none 0 0] := by
           have h1 := Blk.new (w3.alloc (.cells #[] 72)) 58 #[.int .i64 0, .slice none 0 0]
           rw [show (w3.alloc (.cells #[] 72)).heap.size = w3.heap.size + 1 by simp] at h1
           exact (hg5.block (w3.heap.size + 1) (by simp) (by simp [Value.ownBlock])).trans h1
         have hf5 : Fr0 w3 w5 := Fr.app (w := ((w3.alloc (.cells #[] 72)).alloc (.cells #[.int .i64 0, .slice none 0 0] 58)).drew) ((((Fr.refl _ w3).alloc _).alloc _).drew) hg5 (fun j hj hlt => by simp [Value.ownBlock] at hj; omega)
         have hz0 : w5.cell? ⟨w.heap.size, 0, none⟩ = some (.int .i64 m.size) := (hf5.cell (p := ⟨w.heap.size, 0, none⟩) HB0.out.lt (fun h => h)).trans hc0
         have hz1 : w5.cell? ⟨w.heap.size, 1, none⟩ = some (.slice A m.l.length c) := (hf5.cell (p := ⟨w.heap.size, 1, none⟩) HB0.out.lt (fun h => h)).trans hc1
         have hz1a := cell_alloc hz1 (.cells #[.int .i64 0, .slice none 0 0] 58)
         have hz0a := cell_alloc hz0 (.cells #[.int .i64 0, .slice none 0 0] 58)
         have HF5 := Lib.hid hf5
         have HO5 := Lib.hid ho5
         have HB5 := Lib.hid hB5
         have hm0 := hB5.cell 0
         have hm1 := hB5.cell 1
         have hm0' := hB5.frozen 0
         have hm1' := hB5.frozen 1
         simp at hm0 hm1
         clear ho5 hg5 hat5 hf5 hB5)
      | (refine step_app (w := ((w3.alloc (.cells #[.int .i64 0, .slice none 0 0] 58)).alloc (.cells #[] 72)).drew) app_off' (by rfl) _ _ (by rfl) (v := .slice (some ⟨w3.heap.size + 1, 0, none⟩) 0 0) (by rfl) (own_mono (by have h := own_empty (w3.alloc (.cells #[.int .i64 0, .slice none 0 0] 58)) 72 34; rwa [show (w3.alloc (.cells #[.int .i64 0, .slice none 0 0] 58)).heap.size = w3.heap.size + 1 by simp] at h) (Nat.le_succ _)) (by rfl) (m := m.l.length) (news := offsC m.l) ((HS3.out.alloc _).alloc _) (offsC_one m.l) (by unfold maxLen; omega) (by omega) (by simp <;> omega) ?_
         intro v5 w5 ho5 hg5 hat5
         obtain ⟨A5, c5, rfl, _, _⟩ := own_form ho5
         have hB5 : Blk w5 w3.heap.size 58 #[.int .i64 0, .slice none 0 0] := by
           have h1 := (Blk.new w3 58 #[.int .i64 0, .slice none 0 0]).alloc (.cells #[] 72)
           exact (hg5.block w3.heap.size (by simp <;> omega) (by simp [Value.ownBlock])).trans h1
         have hf5 : Fr0 w3 w5 := Fr.app (w := ((w3.alloc (.cells #[.int .i64 0, .slice none 0 0] 58)).alloc (.cells #[] 72)).drew) ((((Fr.refl _ w3).alloc _).alloc _).drew) hg5 (fun j hj hlt => by simp [Value.ownBlock] at hj; omega)
         have hz0 : w5.cell? ⟨w.heap.size, 0, none⟩ = some (.int .i64 m.size) := (hf5.cell (p := ⟨w.heap.size, 0, none⟩) HB0.out.lt (fun h => h)).trans hc0
         have hz1 : w5.cell? ⟨w.heap.size, 1, none⟩ = some (.slice A m.l.length c) := (hf5.cell (p := ⟨w.heap.size, 1, none⟩) HB0.out.lt (fun h => h)).trans hc1
         have hz1a := cell_alloc hz1 (.cells #[.int .i64 0, .slice none 0 0] 58)
         have hz0a := cell_alloc hz0 (.cells #[.int .i64 0, .slice none 0 0] 58)
         have HF5 := Lib.hid hf5
         have HO5 := Lib.hid ho5
         have HB5 := Lib.hid hB5
         have hm0 := hB5.cell 0
         have hm1 := hB5.cell 1
         have hm0' := hB5.frozen 0
         have hm1' := hB5.frozen 1
         simp at hm0 hm1
         clear ho5 hg5 hat5 hf5 hB5))
    · go_wp2_with fail
      go_meet
      exact ⟨w5.heap.size, A5, c5, rfl, HF5.out.size, Blk.new _ _ _, by simpa using HO5.out.alloc _, HF5.out.alloc _⟩
    all_goals
      go_wp2_with fail
      go_meet
      refine ⟨_, A5, c5, rfl, by omega, ((HB5.out.set_ 0 (.int .i64 m.size)).set_ 1 (.slice A5 m.l.length c5)), ?_, ?_⟩
      · exact own_setFar (own_setFar (by simpa using HO5.out) HB5.out (by decide) _ _) (HB5.out.set_ 0 _) (by decide) _ _
      · exact (HF5.out.setCell (p := ⟨_, 0, none⟩) (fun h => by dsimp only at h; omega) _).setCell (p := ⟨_, 1, none⟩) (fun h => by dsimp only at h; omega) _
  case rest =>
    obtain ⟨g, A5, c5, rfl, hg, hbg, ho5, hf5⟩ := hcut
    have HD := Lib.hid (show DoSt w wc m (.slice A m.l.length c) o g (.slice A5 m.l.length c5) from
      ⟨Blk.fr (S := fun _ => False) HB0.out hf5 (fun h => h), Blk.fr (S := fun _ => False) HB1.out hf5 (fun h => h), Blk.fr (S := fun _ => False) HB2.out hf5 (fun h => h), hbg, by rw [← HZ3.out]; exact ho5, HS3.out.fr0 hf5, HF3.out.trans hf5, by have := HZ3.out; omega⟩)
    clear hca0 hca1 hcb0 hcb1 hcd0 hcd1 hce0 hce1 hc0 hc1 hk0 hk33 hlid hbg ho5 hf5 HB0 HB1 HB2 HS3 HF3 HS
    obtain ⟨hc0, hc1, hk0, hk33, hlid, hz0, hz1, hy0, hy1, hg0, hg1, hq0, hq1⟩ := HD.out.cells
    go_wp2_with fail
    refine (mfind_any m _ o.id _ HD.out.sl hl).mono ?_
    rintro e w7 ⟨rfl, hf7⟩
    have HD7 := Lib.hid (HD.out.step hf7)
    clear hc0 hc1 hk0 hk33 hlid hz0 hz1 hy0 hy1 hg0 hg1 hq0 hq1 hf7 HD
    obtain ⟨hc0, hc1, hk0, hk33, hlid, hz0, hz1, hy0, hy1, hg0, hg1, hq0, hq1⟩ := HD7.out.cells
    have hrun := fun w => run_rem5 w o.kind
    rw [hk] at hrun
    have HR := Lib.hid hk
    clear hk
    have hlo : m.l.length ≤ c5 ∧ c5 ≤ maxLen := by
      obtain ⟨A', c', hv, h1, h2⟩ := own_form HD7.out.own
      injection hv with _ _ h3; subst h3; exact ⟨h1, h2⟩
    go_wp2_with fail
    go_loopw [10] (fun uv wr => ∃ (k : Nat) (An : Option Addr) (cn : Nat), k ≤ m.l.length ∧ (∀ j (hj : j < m.l.length), j < k → isOut m.l[j] = false) ∧ Blk wr g 58 #[.int .i64 m.size, .slice An (m.l.length - k) cn] ∧ Sl wr 72 34 (.slice An (m.l.length - k) cn) (m.l.drop k).length (offsC (m.l.drop k)) ∧ wr.ownsRow w7.heap.size 43 33 uv k (ressC ((m.l.take k).map resOf)) ∧ Fr1 g w7 wr)
      (fun uv _ => match uv with | .slice _ n _ => m.l.length - n | _ => 0)
    case atStart => exact ⟨0, A5, c5, by omega, fun _ _ h => by omega, HD7.out.bg, by simpa using Sl.of_own HD7.out.own, World.ownsRow_nil _ _ _ _, Fr.refl _ _⟩
    case round =>
      obtain ⟨k, An, cn, hk, hno, hbg, hsl, hown, hfr⟩ := hrel
      obtain ⟨Au, cu, rfl, _, _⟩ := own_form hown
      have hsb := (show Sl wr 72 34 (.slice An (m.l.length - k) cn) (m.l.length - k) (offsC (m.l.drop k)) by simpa using hsl).bounds
      have hgu1 := hbg.cell 1
      have hgf1 := hbg.frozen 1
      simp at hgu1
      have HO := Lib.hid hown
      have HFR := Lib.hid hfr
      have HBG := Lib.hid hbg
      have HSL := Lib.hid hsl
      have HNO := Lib.hid hno
      have hgg : w.heap.size + 1 + 1 ≠ g := by have := HD7.out.hg; omega
      have HB2 := Lib.hid (Blk.fr (S := fun k => k = g) HD7.out.b2 hfr hgg)
      have HF := Lib.hid (HD7.out.fr.then_ (S := fun _ => False) hfr (fun i hi e => by have := HD7.out.hg; omega))
      have hgu0 := hbg.cell 0
      simp at hgu0
      clear hz0 hz1 hy0 hy1
      have hz0 := HB2.out.cell 0
      have hz1 := HB2.out.cell 1
      have hy0 := HB2.out.frozen 0
      have hy1 := HB2.out.frozen 1
      simp at hz0 hz1
      clear hown hfr hbg hsl hno hc0 hc1 hk0 hk33 hlid hg0 hg1 hq0 hq1
      by_cases hlt : k < m.l.length
      · have hd0 : 0 < (m.l.drop k).length := by simp; omega
        obtain ⟨b, off, hA, hbs, -, hld, h33⟩ := off_at (A := An) (c := cn) (k := 0) (l := m.l.drop k) (by have := HSL.out; simpa using this) hd0
        subst hA
        have he : (m.l.drop k)[0] = m.l[k] := by simp
        rw [he] at hld h33
        have hoc := HI.out.oc m.l[k] (List.getElem_mem hlt)
        have hpos : (0 : Int) < ((m.l.length - k : Nat) : Int) := by omega
        simp only [Nat.zero_mul, Nat.add_zero] at hld h33
        cases hio : isOut m.l[k] with
        | true =>
          have hlt2 : ¬ (2 : Int) ≤ m.l[k].oc := by simp only [isOut, decide_eq_true_eq] at hio; omega
          have hns := nset_at m.l k hlt hio HNO.out
          obtain ⟨m', hm', hms, hml⟩ : ∃ m' : Win, m' = ⟨m.size, m.l.drop k⟩ ∧ m'.size = m.size ∧ m'.l = m.l.drop k := ⟨⟨m.size, m.l.drop k⟩, rfl, rfl, rfl⟩
          have hP : performW m o = (m', 0, (m.l.take k).map resOf, []) := by rw [hm']; unfold performW; simp [HR.out, hns]
          clear hm' hns
          go_wp2_with fail
          have hSl : Sl wr 72 34 (.slice (some ⟨b, off, none⟩) (m.l.length - k) cn) m'.l.length (offsC m'.l) := by
            rw [hml]; exact HSL.out
          have hRl : Sl wr 43 33 (.slice Au k cu) ((m.l.take k).map resOf).length (ressC ((m.l.take k).map resOf)) := by
            have := Sl.of_own HO.out
            simpa [Nat.min_eq_left hk] using this
          obtain ⟨wf, hwf, hla, h1, h2, h3, h4⟩ := do_end (ds := []) HB2.out rfl HF.out hSl hRl (Sl.nil _ _ _)
          rw [hms] at hwf
          rw [← hwf]
          refine bodyPost_agg4 (n := 2) rfl Try.underlying58 rfl (by kernel_rfl) (by rfl) hla rfl ?_
          unfold DoPost
          rw [hP]
          exact ⟨_, _, _, rfl, h1, h2, h3, h4⟩
        | false =>
          have hlt2 : (2 : Int) ≤ m.l[k].oc := by simp only [isOut, decide_eq_false_iff_not] at hio; omega
          go_wp2_with fail
          go_region_law (first
            | (refine step_app app_res (by rfl) _ _ (by rfl) (v := .slice Au k cu) (by rfl) (HO.out.alloc _) (by rfl) (m := 1) (news := resC (resOf m.l[k])) (Sl.new wr.drew _ _ 1 _ (by simp) (by unfold maxLen; omega)) (fun u hu => List.all_eq_true.1 (resC_one _) u hu) (by unfold maxLen; omega) (by omega) (by have := HFR.out.size; simp; omega) ?_
               intro v10 w10 ho10 hg10 hat10
               obtain ⟨A10, c10, rfl, _, _⟩ := own_form ho10
               have hF10 : Fr (fun j => (Value.slice Au k cu).ownBlock = some j) wr w10 := Fr.app (w := wr.drew.alloc _) (((Fr.refl (fun j => (Value.slice Au k cu).ownBlock = some j) wr).drew).alloc _) hg10 (fun j hj _ => hj)
               have hbg10 : Blk w10 g 58 #[.int .i64 m.size, .slice (some ⟨b, off, none⟩) (m.l.length - k) cn] := HBG.out.fr hF10 (fun hj => own_ne HO.out HBG.out (by decide) _ hj rfl)
               have hf10 : Fr1 g w7 w10 := HFR.out.then_ hF10 (fun i hi hj => by have := own_ge _ HO.out _ hj; omega)
               have hz1 := hbg10.cell 1
               have hz2 := hbg10.frozen 1
               simp at hz1
               have HO10 := Lib.hid ho10
               have HBG10 := Lib.hid hbg10
               have HF10 := Lib.hid hf10
               have HS10 := Lib.hid (HSL.out.fr hF10 (fun j cur fz hj hh => by
                 obtain ⟨cur', hh'⟩ := own_type HO.out hj
                 rw [hh'] at hh; injection hh with hh; injection hh with _ hh; exact absurd hh (by decide)))
               clear ho10 hg10 hat10 hF10 hbg10 hf10))
          all_goals
            go_wp2_with fail
            go_roundw
            case rel =>
              have hlk : m.l.length - (k + 1) = m.l.length - k - 1 := by omega
              have hF1 : Fr1 g w10 (w10.setCell ⟨g, 1, none⟩ (.slice (if cn = 1 then some ⟨b, off, none⟩ else some ⟨b, off + 34, none⟩) (m.l.length - k - 1) (cn - 1))) := (Fr.refl (fun j => j = g) w10).setCell (p := ⟨g, 1, none⟩) (fun _ => rfl) _
              refine ⟨k + 1, (if cn = 1 then some ⟨b, off, none⟩ else some ⟨b, off + 34, none⟩), cn - 1, by omega, ?_, ?_, ?_, ?_, HF10.out.setCell (p := ⟨g, 1, none⟩) (fun _ => rfl) _⟩
              · intro j hj hjk
                rcases (show j < k ∨ j = k by omega) with h | rfl
                · exact HNO.out j hj h
                · exact hio
              · rw [hlk]
                have := HBG10.out.set_ 1 (.slice (if cn = 1 then some ⟨b, off, none⟩ else some ⟨b, off + 34, none⟩) (m.l.length - k - 1) (cn - 1))
                simpa using this
              · have h1 : Sl (w10.setCell ⟨g, 1, none⟩ (.slice (if cn = 1 then some ⟨b, off, none⟩ else some ⟨b, off + 34, none⟩) (m.l.length - k - 1) (cn - 1))) 72 34 (.slice (some ⟨b, off, none⟩) (m.l.length - k) cn) (m.l.length - k) (offsC (m.l.drop k)) := by
                  have := HS10.out.fr1 hF1 HBG10.out (by decide)
                  simpa using this
                have h2 := h1.cutBack (k := 1) (by omega)
                rw [offsC_drop, List.drop_drop] at h2
                rw [hlk]
                have hdl : (m.l.drop (k + 1)).length = m.l.length - k - 1 := by simp; omega
                rw [hdl]
                simpa [Addr.add_mid] using h2
              · have h1 := own_setFar HO10.out HBG10.out (by decide) 1 (.slice (if cn = 1 then some ⟨b, off, none⟩ else some ⟨b, off + 34, none⟩) (m.l.length - k - 1) (cn - 1))
                have h2 : ressC ((m.l.take (k + 1)).map resOf) = ressC ((m.l.take k).map resOf) ++ resC (resOf m.l[k]) := by
                  rw [List.take_succ_eq_append_getElem hlt]; simp only [List.map_append, List.map_cons, List.map_nil, ressC, List.flatMap_append, List.flatMap_cons, List.flatMap_nil, List.append_nil]
                rw [h2]; exact h1
            case measure => simp; omega
      · have hkl : m.l.length - k = 0 := by omega
        have hpos : ¬ (0 : Int) < ((m.l.length - k : Nat) : Int) := by omega
        have hns := nset_all m.l k (by omega) HNO.out
        clear hkl
        obtain ⟨m', hm', hms, hml⟩ : ∃ m' : Win, m' = ⟨m.size, m.l.drop k⟩ ∧ m'.size = m.size ∧ m'.l = m.l.drop k := ⟨⟨m.size, m.l.drop k⟩, rfl, rfl, rfl⟩
        have hP : performW m o = (m', 0, (m.l.take k).map resOf, []) := by rw [hm']; unfold performW; simp [HR.out, hns]
        clear hm' hns
        go_wp2_with fail
        have hSl : Sl wr 72 34 (.slice An (m.l.length - k) cn) m'.l.length (offsC m'.l) := by
          rw [hml]; exact HSL.out
        have hRl : Sl wr 43 33 (.slice Au k cu) ((m.l.take k).map resOf).length (ressC ((m.l.take k).map resOf)) := by
          have := Sl.of_own HO.out
          simpa [Nat.min_eq_left hk] using this
        obtain ⟨wf, hwf, hla, h1, h2, h3, h4⟩ := do_end (ds := []) HB2.out rfl HF.out hSl hRl (Sl.nil _ _ _)
        rw [hms] at hwf
        rw [← hwf]
        refine bodyPost_agg4 (n := 2) rfl Try.underlying58 rfl (by kernel_rfl) (by rfl) hla rfl ?_
        unfold DoPost
        rw [hP]
        exact ⟨_, _, _, rfl, h1, h2, h3, h4⟩
end Go.Proofs.Ytbcconeebjmjdaa
