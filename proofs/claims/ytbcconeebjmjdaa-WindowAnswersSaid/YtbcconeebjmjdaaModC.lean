/- Chapter 36: the law's model: do, part: Drop. No condition beyond the lengths that are named. -/
import Derived.Test.YtbcconeebjmjdaaModB
import Derived.Deep.CutRange
namespace Go.Proofs.Ytbcconeebjmjdaa
open Go.RowKit
attribute [local go_sem ↓] Go.wp_at_zero Go.wp_at_succ

set_option maxHeartbeats 800000 in
set_option maxRecDepth 10000 in
theorem mdo_drop (m : Win) (v : Value) (o : OpM) (w : World) (hs : Sl w 72 34 v m.l.length (offsC m.l)) (hi : Inv m) (hl : m.l.length ≤ 10000) (hk : o.kind.toNat % 5 = 3) :
    Calls Try.prog 33 #[mdV m v, opV o] w (DoPost m o w) := by
  obtain ⟨A, c, rfl, hlc, hcm⟩ := hs.form
  unfold maxLen at hcm
  have HS := Lib.hid hs
  have HI := Lib.hid hi
  clear hs hi
  go_enter Try.func33, Try.ntmps33
  go_wp2_with fail
  obtain ⟨hb0, hb1, hb2, hf3, hz3⟩ := alloc3 w 58 51 58 (mdC m (.slice A m.l.length c)) (opC o).toArray #[.int .i64 0, .slice none 0 0]
  generalize (((w.alloc (.cells (mdC m (.slice A m.l.length c)) 58)).alloc (.cells (opC o).toArray 51)).alloc (.cells #[.int .i64 0, .slice none 0 0] 58)) = w3 at *
  have HS3 := Lib.hid (HS.out.fr0 hf3)
  have HB0 := Lib.hid hb0
  have HB1 := Lib.hid hb1
  have HB2 := Lib.hid hb2
  have HF3 := Lib.hid hf3
  have hc0 := hb0.cell 0
  have hc1 := hb0.cell 1
  simp at hc0 hc1
  have hk0 := hb1.cell 0
  have hk33 := hb1.cell 33
  simp at hk0 hk33
  have hlid := hb1.ldA 1 32 (by simp)
  have hcb0 := cell_alloc (cell_alloc hc0 (.cells #[] 72)) (.cells #[.int .i64 0, .slice none 0 0] 58)
  have hcb1 := cell_alloc (cell_alloc hc1 (.cells #[] 72)) (.cells #[.int .i64 0, .slice none 0 0] 58)
  have hcd0 := cell_alloc hc0 (.cells #[.int .i64 0, .slice none 0 0] 58)
  have hcd1 := cell_alloc hc1 (.cells #[.int .i64 0, .slice none 0 0] 58)
  have hce0 := cell_alloc (cell_alloc hc0 (.cells #[.int .i64 0, .slice none 0 0] 58)) (.cells #[] 72)
  have hce1 := cell_alloc (cell_alloc hc1 (.cells #[.int .i64 0, .slice none 0 0] 58)) (.cells #[] 72)
  have HZ3 := Lib.hid hz3
  have hca0 := cell_alloc hc0 (.cells #[] 72)
  have hca1 := cell_alloc hc1 (.cells #[] 72)
  clear hb0 hb1 hb2 hf3 hz3
  go_cut [8] from 12 to 18 (fun v8 wx => ∃ g A5 c5, v8 = .pointer (some ⟨g, 0, none⟩) ∧ w3.heap.size ≤ g ∧ Blk wx g 58 #[.int .i64 m.size, .slice A5 m.l.length c5] ∧ wx.ownsRow w3.heap.size 72 34 (.slice A5 m.l.length c5) m.l.length (offsC m.l) ∧ Fr0 w3 wx)
  case first =>
    go_region_held_law (fun w' => w'.cell? ⟨w.heap.size, 0, none⟩ = some (.int .i64 m.size) ∧ w'.cell? ⟨w.heap.size, 1, none⟩ = some (.slice A m.l.length c)) (first
      | exact ⟨by assumption, by assumption⟩
      | exact ⟨cell_alloc (by assumption) _, cell_alloc (by assumption) _⟩
      | exact ⟨cell_alloc (cell_alloc (by assumption) _) _, cell_alloc (cell_alloc (by assumption) _) _⟩
      | exact ⟨cell_far (cell_far (by assumption) (by have := HB0.out.lt; dsimp only; omega) _) (by have := HB0.out.lt; dsimp only; omega) _, cell_far (cell_far (by assumption) (by have := HB0.out.lt; dsimp only; omega) _) (by have := HB0.out.lt; dsimp only; omega) _⟩) (first
      | (refine step_app app_off' (by rfl) _ _ (by rfl) (v := .slice (some ⟨_, 0, none⟩) 0 0) (by rfl) (own_empty _ _ _) (by rfl) (m := m.l.length) (news := offsC m.l) (HS3.out.drew.alloc _) (offsC_one m.l) (by unfold maxLen; omega) (by omega) (by simp) ?_
         intro v5 w5 ho5 hg5 hat5
         obtain ⟨A5, c5, rfl, _, _⟩ := own_form ho5
         have hf5 : Fr0 w3 w5 := Fr.app (w := w3.drew.alloc _) (((Fr.refl _ w3).drew).alloc _) hg5 (fun j hj hlt => by simp [Value.ownBlock] at hj; omega)
         have hz0 : w5.cell? ⟨w.heap.size, 0, none⟩ = some (.int .i64 m.size) := (hf5.cell (p := ⟨w.heap.size, 0, none⟩) HB0.out.lt (fun h => h)).trans hc0
         have hz1 : w5.cell? ⟨w.heap.size, 1, none⟩ = some (.slice A m.l.length c) := (hf5.cell (p := ⟨w.heap.size, 1, none⟩) HB0.out.lt (fun h => h)).trans hc1
         have hz1a := cell_alloc hz1 (.cells #[.int .i64 0, .slice none 0 0] 58)
         have hz0a := cell_alloc hz0 (.cells #[.int .i64 0, .slice none 0 0] 58)
         have HF5 := Lib.hid hf5
         have HO5 := Lib.hid ho5
         clear ho5 hg5 hat5 hf5)
      | (refine step_app (w := ((w3.alloc (.cells #[] 72)).alloc (.cells #[.int .i64 0, .slice none 0 0] 58)).drew) app_off' (by rfl) _ _ (by rfl) (v := .slice (some ⟨_, 0, none⟩) 0 0) (by rfl) (own_fr0 (own_empty w3 _ _) (((Fr.refl _ _).alloc _).drew)) (by rfl) (m := m.l.length) (news := offsC m.l) ((HS3.out.alloc _).alloc _) (offsC_one m.l) (by unfold maxLen; omega) (by omega) (by simp <;> omega) ?_
         intro v5 w5 ho5 hg5 hat5
         obtain ⟨A5, c5, rfl, _, _⟩ := own_form ho5
         have hB5 : Blk w5 (w3.heap.size + 1) 58 #[.int .i64 0, .slice none 0 0] := by
           have h1 := Blk.new (w3.alloc (.cells #[] 72)) 58 #[.int .i64 0, .slice none 0 0]
           rw [show (w3.alloc (.cells #[] 72)).heap.size = w3.heap.size + 1 by simp] at h1
           exact (hg5.block (w3.heap.size + 1) (by simp) (by simp [Value.ownBlock])).trans h1
         have hf5 : Fr0 w3 w5 := Fr.app (w := ((w3.alloc (.cells #[] 72)).alloc (.cells #[.int .i64 0, .slice none 0 0] 58)).drew) ((((Fr.refl _ w3).alloc _).alloc _).drew) hg5 (fun j hj hlt => by simp [Value.ownBlock] at hj; omega)
         have hz0 : w5.cell? ⟨w.heap.size, 0, none⟩ = some (.int .i64 m.size) := (hf5.cell (p := ⟨w.heap.size, 0, none⟩) HB0.out.lt (fun h => h)).trans hc0
         have hz1 : w5.cell? ⟨w.heap.size, 1, none⟩ = some (.slice A m.l.length c) := (hf5.cell (p := ⟨w.heap.size, 1, none⟩) HB0.out.lt (fun h => h)).trans hc1
         have hz1a := cell_alloc hz1 (.cells #[.int .i64 0, .slice none 0 0] 58)
         have hz0a := cell_alloc hz0 (.cells #[.int .i64 0, .slice none 0 0] 58)
         have HF5 := Lib.hid hf5
         have HO5 := Lib.hid ho5
         have HB5 := Lib.hid hB5
         have hm0 := hB5.cell 0
         have hm1 := hB5.cell 1
         have hm0' := hB5.frozen 0
         have hm1' := hB5.frozen 1
         simp at hm0 hm1
         clear ho5 hg5 hat5 hf5 hB5)
      | (refine step_app (w := ((w3.alloc (.cells #[.int .i64 0, .slice none 0 0] 58)).alloc (.cells #[] 72)).drew) app_off' (by rfl) _ _ (by rfl) (v := .slice (some ⟨w3.heap.size + 1, 0, none⟩) 0 0) (by rfl) (own_mono (by have h := own_empty (w3.alloc (.cells #[.int .i64 0, .slice none 0 0] 58)) 72 34; rwa [show (w3.alloc (.cells #[.int .i64 0, .slice none 0 0] 58)).heap.size = w3.heap.size + 1 by simp] at h) (Nat.le_succ _)) (by rfl) (m := m.l.length) (news := offsC m.l) ((HS3.out.alloc _).alloc _) (offsC_one m.l) (by unfold maxLen; omega) (by omega) (by simp <;> omega) ?_
         intro v5 w5 ho5 hg5 hat5
         obtain ⟨A5, c5, rfl, _, _⟩ := own_form ho5
         have hB5 : Blk w5 w3.heap.size 58 #[.int .i64 0, .slice none 0 0] := by
           have h1 := (Blk.new w3 58 #[.int .i64 0, .slice none 0 0]).alloc (.cells #[] 72)
           exact (hg5.block w3.heap.size (by simp <;> omega) (by simp [Value.ownBlock])).trans h1
         have hf5 : Fr0 w3 w5 := Fr.app (w := ((w3.alloc (.cells #[.int .i64 0, .slice none 0 0] 58)).alloc (.cells #[] 72)).drew) ((((Fr.refl _ w3).alloc _).alloc _).drew) hg5 (fun j hj hlt => by simp [Value.ownBlock] at hj; omega)
         have hz0 : w5.cell? ⟨w.heap.size, 0, none⟩ = some (.int .i64 m.size) := (hf5.cell (p := ⟨w.heap.size, 0, none⟩) HB0.out.lt (fun h => h)).trans hc0
         have hz1 : w5.cell? ⟨w.heap.size, 1, none⟩ = some (.slice A m.l.length c) := (hf5.cell (p := ⟨w.heap.size, 1, none⟩) HB0.out.lt (fun h => h)).trans hc1
         have hz1a := cell_alloc hz1 (.cells #[.int .i64 0, .slice none 0 0] 58)
         have hz0a := cell_alloc hz0 (.cells #[.int .i64 0, .slice none 0 0] 58)
         have HF5 := Lib.hid hf5
         have HO5 := Lib.hid ho5
         have HB5 := Lib.hid hB5
         have hm0 := hB5.cell 0
         have hm1 := hB5.cell 1
         have hm0' := hB5.frozen 0
         have hm1' := hB5.frozen 1
         simp at hm0 hm1
         clear ho5 hg5 hat5 hf5 hB5))
    · go_wp2_with fail
      go_meet
      exact ⟨w5.heap.size, A5, c5, rfl, HF5.out.size, Blk.new _ _ _, by simpa using HO5.out.alloc _, HF5.out.alloc _⟩
    all_goals
      go_wp2_with fail
      go_meet
      refine ⟨_, A5, c5, rfl, by omega, ((HB5.out.set_ 0 (.int .i64 m.size)).set_ 1 (.slice A5 m.l.length c5)), ?_, ?_⟩
      · exact own_setFar (own_setFar (by simpa using HO5.out) HB5.out (by decide) _ _) (HB5.out.set_ 0 _) (by decide) _ _
      · exact (HF5.out.setCell (p := ⟨_, 0, none⟩) (fun h => by dsimp only at h; omega) _).setCell (p := ⟨_, 1, none⟩) (fun h => by dsimp only at h; omega) _
  case rest =>
    obtain ⟨g, A5, c5, rfl, hg, hbg, ho5, hf5⟩ := hcut
    have HD := Lib.hid (show DoSt w wc m (.slice A m.l.length c) o g (.slice A5 m.l.length c5) from
      ⟨Blk.fr (S := fun _ => False) HB0.out hf5 (fun h => h), Blk.fr (S := fun _ => False) HB1.out hf5 (fun h => h), Blk.fr (S := fun _ => False) HB2.out hf5 (fun h => h), hbg, by rw [← HZ3.out]; exact ho5, HS3.out.fr0 hf5, HF3.out.trans hf5, by have := HZ3.out; omega⟩)
    clear hca0 hca1 hcb0 hcb1 hcd0 hcd1 hce0 hce1 hc0 hc1 hk0 hk33 hlid hbg ho5 hf5 HB0 HB1 HB2 HS3 HF3 HS
    obtain ⟨hc0, hc1, hk0, hk33, hlid, hz0, hz1, hy0, hy1, hg0, hg1, hq0, hq1⟩ := HD.out.cells
    go_wp2_with fail
    refine (mfind_any m _ o.id _ HD.out.sl hl).mono ?_
    rintro e w7 ⟨rfl, hf7⟩
    have HD7 := Lib.hid (HD.out.step hf7)
    clear hc0 hc1 hk0 hk33 hlid hz0 hz1 hy0 hy1 hg0 hg1 hq0 hq1 hf7 HD
    obtain ⟨hc0, hc1, hk0, hk33, hlid, hz0, hz1, hy0, hy1, hg0, hg1, hq0, hq1⟩ := HD7.out.cells
    have hrun := fun w => run_rem5 w o.kind
    rw [hk] at hrun
    have HR := Lib.hid hk
    clear hk
    go_wp2_with fail
    go_loopw [11] (fun iv wr => ∃ (k : Nat) (u : Value), k ≤ m.l.length ∧ iv = .int .i64 k ∧ Blk wr g 58 #[.int .i64 m.size, u] ∧ wr.ownsRow w7.heap.size 72 34 u ((m.l.take k).filter notOut).length (offsC ((m.l.take k).filter notOut)) ∧ Fr1 g w7 wr) (fun i _ => m.l.length - (intOf i).toNat)
    case atStart => exact ⟨0, .slice none 0 0, by omega, rfl, by simpa using HD7.out.bg.set_ 1 (.slice none 0 0), World.ownsRow_nil _ _ _ _, (Fr.refl (fun k => k = g) w7).setCell (p := ⟨g, 1, none⟩) (fun _ => rfl) _⟩
    case round =>
      obtain ⟨k, u, hk, rfl, hbg, hown, hfr⟩ := hrel
      obtain ⟨Au, cu, rfl, _, _⟩ := own_form hown
      have hgne : w.heap.size ≠ g := by have := HD7.out.hg; omega
      have hb01 : wr.cell? ⟨w.heap.size, 1, none⟩ = some (.slice A m.l.length c) := by
        have := (Blk.fr (S := fun k => k = g) HD7.out.b0 hfr hgne).cell 1
        simpa using this
      have hgu1 := hbg.cell 1
      have hgf1 := hbg.frozen 1
      simp at hgu1
      have HO := Lib.hid hown
      have HFR := Lib.hid hfr
      have HBG := Lib.hid hbg
      have HSR := Lib.hid (HD7.out.sl.fr1 hfr HD7.out.bg (by decide))
      clear hown hfr hbg hc0 hc1 hk0 hk33 hlid hz0 hz1 hy0 hy1 hg0 hg1 hq0 hq1
      by_cases hlt : k < m.l.length
      · obtain ⟨b, off, rfl, hbs, hld, -, h33⟩ := off_at HSR.out hlt
        have htk : m.l.take (k + 1) = m.l.take k ++ [m.l[k]] := by rw [List.take_succ_eq_append_getElem hlt]
        have hoc := HI.out.oc m.l[k] (List.getElem_mem hlt)
        have hsz : w7.heap.size ≤ wr.heap.size := HFR.out.size
        cases hio : isOut m.l[k] with
        | true =>
          have hlt2 : ¬ (2 : Int) ≤ m.l[k].oc := by simp only [isOut, decide_eq_true_eq] at hio; omega
          have HN := Lib.hid (show (m.l.take (k + 1)).filter notOut = (m.l.take k).filter notOut by rw [htk, List.filter_append]; simp [notOut, hio])
          clear htk hio
          go_wp2_with fail
          go_roundw
          case rel => exact ⟨k + 1, _, by omega, by go_num, HBG.out, by rw [HN.out]; exact HO.out, HFR.out⟩
          case measure => simp [intOf]; omega
        | false =>
          have hlt2 : (2 : Int) ≤ m.l[k].oc := by simp only [isOut, decide_eq_false_iff_not] at hio; omega
          have HN := Lib.hid (show (m.l.take (k + 1)).filter notOut = (m.l.take k).filter notOut ++ [m.l[k]] by rw [htk, List.filter_append]; simp [notOut, hio])
          have hlen : ((m.l.take k).filter notOut).length ≤ k := by
            have h1 := List.length_filter_le notOut (m.l.take k)
            have h2 := List.length_take_le k m.l
            omega
          have hgua := cell_alloc hgu1 (.cells (offC m.l[k]).toArray 72)
          clear htk hio
          go_wp2_with fail
          go_region_law (first
            | (refine step_app app_off' (by rfl) _ _ (by rfl) (v := .slice Au ((m.l.take k).filter notOut).length cu) (by rfl) (HO.out.alloc _) (by rfl) (m := 1) (news := offC m.l[k]) (Sl.new wr.drew _ _ 1 _ (by simp) (by unfold maxLen; omega)) (fun u hu => List.all_eq_true.1 (offC_one _) u hu) (by unfold maxLen; omega) (by omega) (by simp; omega) ?_
               intro v10 w10 ho10 hg10 hat10
               obtain ⟨A10, c10, rfl, _, _⟩ := own_form ho10
               have hF10 : Fr (fun j => (Value.slice Au ((m.l.take k).filter notOut).length cu).ownBlock = some j) wr w10 := Fr.app (w := wr.drew.alloc _) (((Fr.refl (fun j => (Value.slice Au ((m.l.take k).filter notOut).length cu).ownBlock = some j) wr).drew).alloc _) hg10 (fun j hj _ => hj)
               have hbg10 : Blk w10 g 58 #[.int .i64 m.size, .slice Au ((m.l.take k).filter notOut).length cu] := HBG.out.fr hF10 (fun hj => own_ne HO.out HBG.out (by decide) _ hj rfl)
               have hf10 : Fr1 g w7 w10 := HFR.out.then_ hF10 (fun i hi hj => by have := own_ge _ HO.out _ hj; omega)
               have hz1 := hbg10.cell 1
               have hz2 := hbg10.frozen 1
               simp at hz1
               have HO10 := Lib.hid ho10
               have HBG10 := Lib.hid hbg10
               have HF10 := Lib.hid hf10
               clear ho10 hg10 hat10 hF10 hbg10 hf10))
          all_goals
            go_wp2_with fail
            go_roundw
            case rel =>
              refine ⟨k + 1, .slice A10 (((m.l.take k).filter notOut).length + 1) c10, by omega, by go_num, by simpa using HBG10.out.set_ 1 (.slice A10 (((m.l.take k).filter notOut).length + 1) c10), ?_, HF10.out.setCell (p := ⟨g, 1, none⟩) (fun _ => rfl) _⟩
              rw [HN.out]
              have := own_setFar HO10.out HBG10.out (by decide) 1 (.slice A10 (((m.l.take k).filter notOut).length + 1) c10)
              simpa [offsC] using this
            case measure => simp [intOf]; omega
      · have htk : m.l.take k = m.l := List.take_of_length_le (by omega)
        rw [htk] at hgu1
        have HO := Lib.hid (show wr.ownsRow w7.heap.size 72 34 (.slice Au (m.l.filter notOut).length cu) (m.l.filter notOut).length (offsC (m.l.filter notOut)) by have := HO.out; rwa [htk] at this)
        have HBG := Lib.hid (show Blk wr g 58 #[.int .i64 m.size, .slice Au (m.l.filter notOut).length cu] by have := HBG.out; rwa [htk] at this)
        have hgg : w.heap.size + 1 + 1 ≠ g ∧ w.heap.size ≠ g := by have := HD7.out.hg; omega
        have HB2 := Lib.hid (Blk.fr (S := fun k => k = g) HD7.out.b2 HFR.out hgg.1)
        have HB0 := Lib.hid (Blk.fr (S := fun k => k = g) HD7.out.b0 HFR.out hgg.2)
        have HF := Lib.hid (HD7.out.fr.then_ (S := fun _ => False) HFR.out (fun i hi e => by have := HD7.out.hg; omega))
        have hgu0 := HBG.out.cell 0
        have hb00 := HB0.out.cell 0
        simp at hgu0 hb00
        obtain ⟨m', hm', hms, hml⟩ : ∃ m' : Win, m' = ⟨m.size, m.l.filter notOut⟩ ∧ m'.size = m.size ∧ m'.l = m.l.filter notOut := ⟨⟨m.size, m.l.filter notOut⟩, rfl, rfl, rfl⟩
        have hP : performW m o = (m', 0, [], outs m.l) := by rw [hm']; unfold performW; simp [HR.out]
        clear hm'
        go_wp2_with fail
        go_region_held3 (fun w' => w'.cell? ⟨w.heap.size, 0, none⟩ = some (.int .i64 m.size) ∧ w'.cell? ⟨w.heap.size, 1, none⟩ = some (.slice A m.l.length c) ∧ w'.cell? ⟨g, 0, none⟩ = some (.int .i64 m.size) ∧ w'.cell? ⟨g, 1, none⟩ = some (.slice Au (m.l.filter notOut).length cu))
          (first | (refine ⟨?_, ?_, ?_, ?_⟩ <;> assumption) | (refine ⟨?_, ?_, ?_, ?_⟩ <;> exact cell_far (cell_far (by assumption) (by dsimp only; omega) _) (by dsimp only; omega) _) | go_keep)
          (first | (go_at_call 27; refine (mout_any m _ _ HSR.out.drew HI.out hl).mono ?_
                    rintro e w9 ⟨ud, rfl, hod, hf⟩
                    obtain ⟨Ad, cd, rfl, _, _⟩ := own_form hod
                    have hf0 : Fr0 wr w9 := ((Fr.refl _ _).drew).trans hf
                    have HB2 := Lib.hid (Blk.fr (S := fun _ => False) HB2.out hf0 (fun h => h))
                    have HB0 := Lib.hid (Blk.fr (S := fun _ => False) HB0.out hf0 (fun h => h))
                    have HBG := Lib.hid (Blk.fr (S := fun _ => False) HBG.out hf0 (fun h => h))
                    have HO := Lib.hid (own_fr0 HO.out hf0)
                    have HF9 := Lib.hid (HF.out.trans hf0)
                    have HOD := Lib.hid hod
                    have hx1 := HB0.out.cell 0
                    have hx2 := HB0.out.cell 1
                    have hx3 := HBG.out.cell 0
                    have hx4 := HBG.out.cell 1
                    have hz0 := HB2.out.cell 0
                    have hz1 := HB2.out.cell 1
                    have hy0 := HB2.out.frozen 0
                    have hy1 := HB2.out.frozen 1
                    simp at hx1 hx2 hx3 hx4 hz0 hz1
                    clear hod hf hf0 hb00 hb01 hgu0 hgu1))
        go_wp2_with fail
        have hSl : Sl w9 72 34 (.slice Au (m.l.filter notOut).length cu) m'.l.length (offsC m'.l) := by
          rw [hml]; exact Sl.of_own HO.out
        obtain ⟨wf, hwf, hla, h1, h2, h3, h4⟩ := do_end (rs := []) HB2.out rfl HF9.out hSl (Sl.nil _ _ _) (Sl.of_own HOD.out)
        rw [hms] at hwf
        rw [← hwf]
        refine bodyPost_agg4 (n := 2) rfl Try.underlying58 rfl (by kernel_rfl) (by rfl) hla rfl ?_
        unfold DoPost
        rw [hP]
        exact ⟨_, _, _, rfl, h1, h2, h3, h4⟩
end Go.Proofs.Ytbcconeebjmjdaa
