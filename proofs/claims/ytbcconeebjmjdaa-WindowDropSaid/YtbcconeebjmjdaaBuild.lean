/- Chapter 36: the law's helper build: operations on a window and on the model, side by side. No condition beyond the lengths that are named. -/
import Derived.Test.YtbcconeebjmjdaaModE
import Derived.Test.YtbcconeebjmjdaaWinM
import Derived.Deep.CutRange
namespace Go.Proofs.Ytbcconeebjmjdaa
open Go.RowKit
attribute [local go_sem ↓] Go.wp_at_zero Go.wp_at_succ

/-- No identity stands twice. -/
def Nd (l : List Off) : Prop := (l.map (·.id)).Nodup
theorem nd_sub {l l' : List Off} (h : Nd l) (hs : l'.Sublist l) : Nd l' := List.Nodup.sublist (hs.map _) h
theorem map_set_id (l : List Off) (k : Nat) (hk : k < l.length) (x : Off) (hx : x.id = l[k].id) : (l.set k x).map (·.id) = l.map (·.id) := by
  apply List.ext_getElem
  · simp
  · intro i h1 h2
    simp only [List.getElem_map, List.getElem_set]
    split
    · rename_i h; subst h; exact hx
    · rfl
theorem perform_nd (m : Win) (o : OpM) (h : Nd m.l) : Nd (performW m o).1.l := by
  unfold performW offerW answerW resizeW
  split
  · dsimp only
    split
    · split
      · exact h
      · rename_i hf
        split
        · exact h
        · dsimp only
          unfold Nd at h ⊢
          rw [List.map_append, List.map_cons, List.map_nil, List.nodup_append]
          refine ⟨h, by simp, ?_⟩
          intro a ha b hb hab
          simp only [List.mem_singleton] at hb
          subst hab; subst hb
          obtain ⟨x, hx, hxa⟩ := List.mem_map.1 ha
          apply hf
          rw [List.find?_isSome]
          exact ⟨x, hx, by simp [hasId, hxa]⟩
    · exact h
  · split
    · dsimp only
      split
      · exact h
      · rename_i x hx
        split
        · split
          · obtain ⟨k, hk, hl, hs, _⟩ := setOc_cases m.l o.id o.n x hx
            dsimp only
            rw [hs]
            unfold Nd at h ⊢
            rw [map_set_id _ _ hk _ (by rw [hl])]
            exact h
          · exact h
        · exact h
    · split
      · exact nd_sub h (List.drop_sublist _ _)
      · split
        · exact nd_sub h List.filter_sublist
        · dsimp only
          split <;> exact h

theorem results_tmp_cell_tmp {fn : Func} {p u v : Tmp} {ty : TypeId} (h : fn.results = #[.tmp u, .cell p ty, .tmp v]) (tmps : Array Value) (P : Program) (w : World) :
    (results fn tmps).run P w = ((asAddr (tmps.getD p undef)).run P w).andThen fun a w₁ => ((loadVar ty a).run P w₁).andThen fun c w₂ => .ok (.tuple #[tmps.getD u undef, c, tmps.getD v undef]) w₂ := by
  simp only [results, h]
  simp [Sem.run_bind, Result.andThen]
theorem bodyPost_agg3m {P : Program} {w : World} {fn : Func} {p u v : Tmp} {T : TypeId} {d : TypeDesc} {n : Nat} (h : fn.results = #[.tmp u, .cell p T, .tmp v]) (hu : P.underlying T = some d) (hd : d.isRow = true) (hi : (P.info? T).map (·.size) = some n)
    {R : Ending → World → Prop} {a : Act} {b o : Nat} {cs : Array Value} (ht : a.tmps.getD p undef = .pointer (some ⟨b, o, none⟩)) (hl : ldA w b o n = some cs) (hd0 : a.defers = []) (hR : R (.returned (.tuple #[a.tmps.getD u undef, .agg cs, a.tmps.getD v undef])) w) : bodyPost P fn R .ret a w := by
  refine bodyPost_ret (v := .tuple #[a.tmps.getD u undef, .agg cs, a.tmps.getD v undef]) ?_ hd0 hR
  rw [results_tmp_cell_tmp h, ht]
  simp [asAddr, run_loadVar_ldA hu hd hi hl]

/-- What build hands back: a window and a model that agree. -/
def BuildPost (n : Nat) (w : World) (e : Ending) (w' : World) : Prop := ∃ g m v, e = .returned (.tuple #[wptr g, mdV m v, .bool true]) ∧ w.heap.size ≤ g ∧ WinAt w' g m ∧
  Sl w' 72 34 v m.l.length (offsC m.l) ∧ Inv m ∧ Nd m.l ∧ m.l.length ≤ n ∧ Fr0 w w'

/-- The state of build at the head of its loop: the window in block g, the model in block gm, the result's variable in block gr. -/
structure BuSt (w wr : World) (g gm gr : Nat) (m : Win) (v : Value) (n : Nat) : Prop where
  win : WinAt wr g m
  mod : Blk wr gm 58 (mdC m v)
  res : Blk wr gr 58 #[.int .i64 0, .slice none 0 0]
  sl : Sl wr 72 34 v m.l.length (offsC m.l)
  inv : Inv m
  nd : Nd m.l
  len : m.l.length ≤ n
  fr : Fr0 w wr
  g0 : w.heap.size < g
  gr0 : gr = w.heap.size
  gm0 : w.heap.size < gm
  ne : g ≠ gm

set_option maxHeartbeats 4000000 in
set_option maxRecDepth 10000 in
theorem build_any (a : Int) (l : List OpM) (A : Option Addr) (c : Nat) (w : World) (ha : Arg w w.heap.size A l.length c 34 (l.flatMap opC)) (h100 : ¬ (100 : Int) < (l.length : Int)) :
    Calls Try.prog 24 #[.int .i64 a, .slice A l.length c] w (BuildPost l.length w) := by
  have hlc := ha.cap
  have hcm := ha.max
  unfold maxLen at hcm
  have HA := Lib.hid ha
  clear ha
  obtain ⟨z, y, s, h1, h2, h3, h4, h5, hs1, hs2⟩ := size_facts a
  go_enter Try.func24, Try.ntmps24
  go_wp2_with fail
  refine (new_yes s _ ⟨hs1, hs2⟩).mono ?_
  rintro e w2 ⟨g, rfl, hg, hW, hf2⟩
  have HB := Lib.hid (show BuSt w (w2.alloc (.cells #[.int .i64 s, .slice none 0 0] 58)) g w2.heap.size w.heap.size ⟨s, []⟩ (.slice none 0 0) 0 from
    ⟨hW.fr0 ((Fr.refl _ _).alloc _), Blk.new _ _ _, (Blk.fr (S := fun _ => False) (Blk.new w 58 #[.int .i64 0, .slice none 0 0]) hf2 (fun h => h)).alloc _, Sl.nil _ _ _, ⟨hs1, hs2, by simp⟩, by simp [Nd], by simp,
      ((((Fr.refl _ _).alloc _).trans hf2).alloc _), by simp at hg; omega, rfl, by have := hf2.size; simp at this; omega, by have := hW.lt; omega⟩)
  have HZ2 := Lib.hid hf2.size
  clear hW hf2 hg h1 h2 h3 h4 h5
  go_wp2_with fail
  go_loopw [10] (fun iv wr => ∃ (i : Nat) (m : Win) (v : Value), i ≤ l.length ∧ iv = .int .i64 i ∧ BuSt w wr g w2.heap.size w.heap.size m v i) (fun i _ => l.length - (intOf i).toNat)
  case atStart => exact ⟨0, ⟨s, []⟩, .slice none 0 0, by omega, rfl, HB.out⟩
  case round =>
    obtain ⟨i, m, v, hi, rfl, hb⟩ := hrel
    obtain ⟨Av, cv, rfl, -, -⟩ := hb.sl.form
    have H := Lib.hid hb
    clear hb
    by_cases hlt : i < l.length
    · obtain ⟨b, off, rfl, hb, hld, hck⟩ := (HA.out.below (H.out.fr.belowB (Nat.le_refl _))).op hlt
      clear hck
      go_wp2_with fail
      refine (perform_any g m l[i] _ H.out.win H.out.inv (by have := H.out.len; omega)).mono ?_
      rintro e w5 ⟨r1, d1, rfl, hr1, hd1, hW5, hf5⟩
      have hI5 := perform_inv m l[i] H.out.inv
      have hN5 := perform_nd m l[i] H.out.nd
      have hL5 := perform_len m l[i]
      have hF5 : Fr0 w w5 := H.out.fr.then_ hf5 (fun k hk e => by have := H.out.g0; omega)
      have hM5 : Blk w5 w2.heap.size 58 (mdC m (.slice Av m.l.length cv)) := H.out.mod.fr hf5 H.out.ne.symm
      have hR5 : Blk w5 w.heap.size 58 #[.int .i64 0, .slice none 0 0] := H.out.res.fr hf5 (by have := H.out.g0; omega)
      obtain ⟨vw, hBg, -⟩ := H.out.win
      have hS5 : Sl w5 72 34 (.slice Av m.l.length cv) m.l.length (offsC m.l) := H.out.sl.fr1 hf5 hBg (by decide)
      obtain ⟨b', off', hA', hb', hld, -⟩ := (HA.out.below (hF5.belowB (Nat.le_refl _))).op hlt
      simp only [Option.some.injEq, Addr.mk.injEq, and_true] at hA'
      obtain ⟨rfl, rfl⟩ := hA'
      have hI := H.out.inv
      have hm0 := hM5.cell 0
      have hm1 := hM5.cell 1
      simp at hm0 hm1
      have hm0a := cell_alloc hm0 (.cells #[.int .i64 0, .slice none 0 0] 58)
      have hm1a := cell_alloc hm1 (.cells #[.int .i64 0, .slice none 0 0] 58)
      have hml : m.l.length ≤ 10000 := by have := H.out.len; omega
      have hbw5 : b < w5.heap.size := Nat.lt_of_lt_of_le hb' hF5.size
      have HS5 := Lib.hid hS5
      have HI := Lib.hid hI
      have HW5 := Lib.hid hW5
      have HR1 := Lib.hid hr1
      have HD1 := Lib.hid hd1
      have HM5 := Lib.hid hM5
      have HR5 := Lib.hid hR5
      have HF5 := Lib.hid hF5
      have HI5 := Lib.hid hI5
      have HN5 := Lib.hid hN5
      have HL5 := Lib.hid hL5
      clear hr1 hd1 hW5 hf5 hI5 hN5 hL5 hF5 hM5 hR5 hS5 hI vw hBg
      go_wp2_with fail
      go_cut [14, 15, 16, 17] from 58 to 68 (fun v14 v15 v16 v17 wx => ∃ g6 A6 c6, v14 = .pointer (some ⟨g6, 0, none⟩) ∧ v15 = .int .i64 (performW m l[i]).2.1 ∧ w5.heap.size ≤ g6 ∧ Blk wx g6 58 (mdC (performW m l[i]).1 (.slice A6 (performW m l[i]).1.l.length c6)) ∧
        Sl wx 72 34 (.slice A6 (performW m l[i]).1.l.length c6) (performW m l[i]).1.l.length (offsC (performW m l[i]).1.l) ∧
        Sl wx 43 33 v16 (performW m l[i]).2.2.1.length (ressC (performW m l[i]).2.2.1) ∧ Sl wx 37 32 v17 (performW m l[i]).2.2.2.length (idsC (performW m l[i]).2.2.2) ∧ Fr0 w5 wx)
      case first =>
        go_region_law (first
          | (go_simp; go_at_call 33
             refine (mdo_any m (.slice Av m.l.length cv) l[i] (w5.drew) HS5.out.drew HI.out hml).mono ?_
             rintro e w6 ⟨v6, r6, d6, rfl, hs6, hr6, hd6, hf6⟩
             obtain ⟨A6, c6, rfl, -, -⟩ := hs6.form
             have HS6 := Lib.hid hs6
             have HR6 := Lib.hid hr6
             have HD6 := Lib.hid hd6
             have HF6 := Lib.hid (show Fr0 w5 w6 from ((Fr.refl _ w5).drew).trans hf6)
             clear hs6 hr6 hd6 hf6)
          | (go_simp; go_at_call 33
             refine (mdo_any m (.slice Av m.l.length cv) l[i] ((w5.alloc (.cells #[.int .i64 0, .slice none 0 0] 58)).drew) (HS5.out.alloc _).drew HI.out hml).mono ?_
             rintro e w6 ⟨v6, r6, d6, rfl, hs6, hr6, hd6, hf6⟩
             obtain ⟨A6, c6, rfl, -, -⟩ := hs6.form
             have hB6 : Blk w6 w5.heap.size 58 #[.int .i64 0, .slice none 0 0] := Blk.fr (S := fun _ => False) (Blk.new w5 _ _).drew hf6 (fun h => h)
             have hx0 := hB6.cell 0
             have hx1 := hB6.cell 1
             have hy0 := hB6.frozen 0
             have hy1 := hB6.frozen 1
             simp at hx0 hx1
             have HB6 := Lib.hid hB6
             have HS6 := Lib.hid hs6
             have HR6 := Lib.hid hr6
             have HD6 := Lib.hid hd6
             have HF6 := Lib.hid (show Fr0 w5 w6 from ((((Fr.refl _ w5)).alloc _).drew).trans hf6)
             clear hs6 hr6 hd6 hf6 hB6))
        all_goals
          go_wp2_with fail
          go_meet
          first
          | exact ⟨w6.heap.size, A6, c6, rfl, rfl, HF6.out.size, Blk.new _ _ _, HS6.out.alloc _, HR6.out.alloc _, HD6.out.alloc _, HF6.out.alloc _⟩
          | (have hF : Fr1 w5.heap.size w6 ((w6.setCell ⟨w5.heap.size, 0, none⟩ (.int .i64 (performW m l[i]).1.size)).setCell ⟨w5.heap.size, 1, none⟩ (.slice A6 (performW m l[i]).1.l.length c6)) := ((Fr.refl (fun k => k = w5.heap.size) w6).setCell (p := ⟨w5.heap.size, 0, none⟩) (fun _ => rfl) _).setCell (p := ⟨w5.heap.size, 1, none⟩) (fun _ => rfl) _
             exact ⟨w5.heap.size, A6, c6, rfl, rfl, Nat.le_refl _, (HB6.out.set_ 0 _).set_ 1 _, HS6.out.fr1 hF HB6.out (by decide), HR6.out.fr1 hF HB6.out (by decide), HD6.out.fr1 hF HB6.out (by decide), HF6.out.then_ (S := fun _ => False) hF (fun k hk e => by omega)⟩)
      case rest =>
        obtain ⟨g6, A6, c6, rfl, rfl, hg6, hB6, hS6, hR6, hD6, hF6⟩ := hcut
        have HM6 := Lib.hid (show Blk wc w2.heap.size 58 (mdC m (.slice Av m.l.length cv)) from Blk.fr (S := fun _ => False) HM5.out hF6 (fun h => h))
        have HB6 := Lib.hid hB6
        have HS6 := Lib.hid hS6
        have HR6 := Lib.hid hR6
        have HD6 := Lib.hid hD6
        have HF6 := Lib.hid hF6
        clear hB6 hS6 hR6 hD6 hF6 hm0 hm1 hm0a hm1a hld
        go_wp2_with fail
        refine (results_any (performW m l[i]).2.2.1 (performW m l[i]).2.2.1 _ _ _ (HR1.out.fr0 HF6.out) HR6.out).mono ?_
        rintro e w7 ⟨rfl, hF7⟩
        have HF7 := Lib.hid hF7
        clear hF7
        simp only [decide_true]
        go_wp2_with fail
        refine (ids_any (performW m l[i]).2.2.2 (performW m l[i]).2.2.2 _ _ _ ((HD1.out.fr0 HF6.out).fr0 HF7.out) (HD6.out.fr0 HF7.out)).mono ?_
        rintro e w8 ⟨rfl, hF8⟩
        have HF8 := Lib.hid (HF7.out.trans hF8)
        clear hF8
        simp only [decide_true]
        have HM8 := Lib.hid (show Blk w8 w2.heap.size 58 (mdC m (.slice Av m.l.length cv)) from Blk.fr (S := fun _ => False) HM6.out HF8.out (fun h => h))
        have HB8 := Lib.hid (show Blk w8 g6 58 (mdC (performW m l[i]).1 (.slice A6 (performW m l[i]).1.l.length c6)) from Blk.fr (S := fun _ => False) HB6.out HF8.out (fun h => h))
        have hx0 := HB8.out.cell 0
        have hx1 := HB8.out.cell 1
        simp at hx0 hx1
        have hy0 := HM8.out.cell 0
        have hy1 := HM8.out.cell 1
        have hq0 := HM8.out.frozen 0
        have hq1 := HM8.out.frozen 1
        simp at hy0 hy1
        go_wp2_with fail
        go_roundw
        case rel =>
          have hW8 := (HW5.out.fr0 HF6.out).fr0 HF8.out
          obtain ⟨vw, hBg, hSg⟩ := hW8
          have hF : Fr1 w2.heap.size w8 ((w8.setCell ⟨w2.heap.size, 0, none⟩ (.int .i64 (performW m l[i]).1.size)).setCell ⟨w2.heap.size, 1, none⟩ (.slice A6 (performW m l[i]).1.l.length c6)) := ((Fr.refl (fun k => k = w2.heap.size) w8).setCell (p := ⟨w2.heap.size, 0, none⟩) (fun _ => rfl) _).setCell (p := ⟨w2.heap.size, 1, none⟩) (fun _ => rfl) _
          refine ⟨i + 1, (performW m l[i]).1, .slice A6 (performW m l[i]).1.l.length c6, by omega, by go_num, ⟨⟨vw, hBg.fr hF H.out.ne, hSg.fr1 hF HM8.out (by decide)⟩, (HM8.out.set_ 0 _).set_ 1 _, ?_, ?_, HI5.out, HN5.out, by have := HL5.out; have := H.out.len; omega, ?_, H.out.g0, rfl, H.out.gm0, H.out.ne⟩⟩
          · exact ((HR5.out.fr HF6.out (fun h => h)).fr HF8.out (fun h => h)).fr hF (by have := H.out.gm0; omega)
          · exact (HS6.out.fr0 HF8.out).fr1 hF HM8.out (by decide)
          · exact ((HF5.out.trans HF6.out).trans HF8.out).then_ (S := fun _ => False) hF (fun k hk e => by have := H.out.gm0; omega)
        case measure => simp [intOf]; omega
    · have hz0 := H.out.mod.cell 0
      have hz1 := H.out.mod.cell 1
      simp at hz0 hz1
      have hy0 := H.out.res.cell 0
      have hy1 := H.out.res.cell 1
      have hq0 := H.out.res.frozen 0
      have hq1 := H.out.res.frozen 1
      simp at hy0 hy1
      go_wp2_with fail
      go_region
      all_goals
        go_wp2_with fail
        have hF : Fr1 w.heap.size wr ((wr.setCell ⟨w.heap.size, 0, none⟩ (.int .i64 m.size)).setCell ⟨w.heap.size, 1, none⟩ (.slice Av m.l.length cv)).drew := (((Fr.refl (fun k => k = w.heap.size) wr).setCell (p := ⟨w.heap.size, 0, none⟩) (fun _ => rfl) _).setCell (p := ⟨w.heap.size, 1, none⟩) (fun _ => rfl) _).drew
        have hR : Blk ((wr.setCell ⟨w.heap.size, 0, none⟩ (.int .i64 m.size)).setCell ⟨w.heap.size, 1, none⟩ (.slice Av m.l.length cv)).drew w.heap.size 58 (mdC m (.slice Av m.l.length cv)) := ((H.out.res.set_ 0 (.int .i64 m.size)).set_ 1 (.slice Av m.l.length cv)).drew
        obtain ⟨vw, hBg, hSg⟩ := H.out.win
        refine bodyPost_agg3m (n := 2) rfl Try.underlying58 rfl (by kernel_rfl) (by rfl) (hR.ldA 0 2 (by simp)) rfl ?_
        refine ⟨g, m, _, rfl, Nat.le_of_lt H.out.g0, ⟨vw, hBg.fr hF (by have := H.out.g0; omega), hSg.fr1 hF H.out.res (by decide)⟩, H.out.sl.fr1 hF H.out.res (by decide), H.out.inv, H.out.nd, by have := H.out.len; omega, H.out.fr.then_ (S := fun _ => False) hF (fun k hk e => by omega)⟩
end Go.Proofs.Ytbcconeebjmjdaa
