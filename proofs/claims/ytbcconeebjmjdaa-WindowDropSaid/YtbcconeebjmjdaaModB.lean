/- Chapter 36: the law's model: do. No condition beyond the lengths that are named. -/
import Derived.Test.YtbcconeebjmjdaaMod
import Derived.Deep.CutRange
namespace Go.Proofs.Ytbcconeebjmjdaa
open Go.RowKit
attribute [local go_sem ↓] Go.wp_at_zero Go.wp_at_succ

@[go_sem] theorem run_sl_off0' (w : World) : (bsl 56 0 #[]).run Try.prog w = .ok (.slice (some ⟨w.heap.size, 0, none⟩) 0 0) (w.alloc (.cells #[] 72)) := by kernel_rfl

theorem alloc3 (w : World) (t0 t1 t2 : TypeId) (c0 c1 c2 : Array Value) :
    Blk (((w.alloc (.cells c0 t0)).alloc (.cells c1 t1)).alloc (.cells c2 t2)) w.heap.size t0 c0 ∧ Blk (((w.alloc (.cells c0 t0)).alloc (.cells c1 t1)).alloc (.cells c2 t2)) (w.heap.size + 1) t1 c1 ∧
    Blk (((w.alloc (.cells c0 t0)).alloc (.cells c1 t1)).alloc (.cells c2 t2)) (w.heap.size + 2) t2 c2 ∧ Fr0 w (((w.alloc (.cells c0 t0)).alloc (.cells c1 t1)).alloc (.cells c2 t2)) ∧ (((w.alloc (.cells c0 t0)).alloc (.cells c1 t1)).alloc (.cells c2 t2)).heap.size = w.heap.size + 3 := by
  refine ⟨((Blk.new w t0 c0).alloc _).alloc _, ?_, ?_, (((Fr.refl _ w).alloc _).alloc _).alloc _, by simp⟩
  · have := (Blk.new (w.alloc (.cells c0 t0)) t1 c1).alloc (.cells c2 t2)
    rwa [show (w.alloc (.cells c0 t0)).heap.size = w.heap.size + 1 by simp] at this
  · have := Blk.new ((w.alloc (.cells c0 t0)).alloc (.cells c1 t1)) t2 c2
    rwa [show ((w.alloc (.cells c0 t0)).alloc (.cells c1 t1)).heap.size = w.heap.size + 2 by simp] at this

theorem cell_far {w : World} {a p : Addr} {v : Value} (h : w.cell? a = some v) (hne : a.block ≠ p.block) (u : Value) : (w.setCell p u).cell? a = some v :=
  (World.cell?_of_block (w := w) (Below.heap_setCell w p u a.block hne)).trans h

theorem own_ne {w : World} {base e size n : Nat} {v : Value} {xs : List Value} {g : Nat} {t : TypeId} {cs : Array Value} (h : w.ownsRow base e size v n xs) (hb : Blk w g t cs) (hne : t ≠ e) (k : Nat) (hk : v.ownBlock = some k) : k ≠ g := by
  obtain ⟨hl, ⟨rfl, rfl⟩ | ⟨g', cap, cur, rfl, hg, hh, _⟩⟩ := h
  · simp [Value.ownBlock] at hk
  · simp [Value.ownBlock] at hk
    subst hk
    rintro rfl
    unfold Blk at hb
    rw [hb] at hh
    injection hh with hh
    injection hh with _ hh
    exact hne hh
theorem own_setFar {w : World} {base e size n : Nat} {v : Value} {xs : List Value} {g : Nat} {t : TypeId} {cs : Array Value} (h : w.ownsRow base e size v n xs) (hb : Blk w g t cs) (hne : t ≠ e) (i : Nat) (u : Value) : (w.setCell ⟨g, i, none⟩ u).ownsRow base e size v n xs :=
  own_fr h ((Fr.refl (fun k => k = g) w).setCell (p := ⟨g, i, none⟩) (fun _ => rfl) u) (fun k hk he => own_ne h hb hne k hk he)

@[simp] theorem opC_ext (o : OpM) : (opC o).toArray.extract 1 (1 + 32) = (bs o.id.1).toArray := by
  simp [opC]

/-- What 'do' answers. -/
def DoPost (m : Win) (o : OpM) (w : World) (e : Ending) (w' : World) : Prop := ∃ v r d, e = .returned (.tuple #[mdV (performW m o).1 v, .int .i64 (performW m o).2.1, r, d]) ∧
  Sl w' 72 34 v (performW m o).1.l.length (offsC (performW m o).1.l) ∧
  Sl w' 43 33 r (performW m o).2.2.1.length (ressC (performW m o).2.2.1) ∧ Sl w' 37 32 d (performW m o).2.2.2.length (idsC (performW m o).2.2.2) ∧ Fr0 w w'

/-- The state of 'do' behind its first region. -/
structure DoSt (w wx : World) (m : Win) (v : Value) (o : OpM) (g : Nat) (vg : Value) : Prop where
  b0 : Blk wx w.heap.size 58 (mdC m v)
  b1 : Blk wx (w.heap.size + 1) 51 (opC o).toArray
  b2 : Blk wx (w.heap.size + 2) 58 #[.int .i64 0, .slice none 0 0]
  bg : Blk wx g 58 #[.int .i64 m.size, vg]
  own : wx.ownsRow (w.heap.size + 3) 72 34 vg m.l.length (offsC m.l)
  sl : Sl wx 72 34 v m.l.length (offsC m.l)
  fr : Fr0 w wx
  hg : w.heap.size + 3 ≤ g
theorem DoSt.step {w wx wy : World} {m : Win} {v : Value} {o : OpM} {g : Nat} {vg : Value} (h : DoSt w wx m v o g vg) (hf : Fr0 wx wy) : DoSt w wy m v o g vg :=
  ⟨Blk.fr (S := fun _ => False) h.b0 hf (fun h => h), Blk.fr (S := fun _ => False) h.b1 hf (fun h => h), Blk.fr (S := fun _ => False) h.b2 hf (fun h => h), Blk.fr (S := fun _ => False) h.bg hf (fun h => h), own_fr0 h.own hf, h.sl.fr0 hf, h.fr.trans hf, h.hg⟩
theorem DoSt.cells {w wx : World} {m : Win} {v : Value} {o : OpM} {g : Nat} {vg : Value} (h : DoSt w wx m v o g vg) :
    wx.cell? ⟨w.heap.size, 0, none⟩ = some (.int .i64 m.size) ∧ wx.cell? ⟨w.heap.size, 1, none⟩ = some v ∧ wx.cell? ⟨w.heap.size + 1, 0, none⟩ = some (u8 o.kind) ∧ wx.cell? ⟨w.heap.size + 1, 33, none⟩ = some (.int .i64 o.n) ∧ ldA wx (w.heap.size + 1) 1 32 = some (bs o.id.1).toArray ∧
    wx.cell? ⟨w.heap.size + 1 + 1, 0, none⟩ = some (.int .i64 0) ∧ wx.cell? ⟨w.heap.size + 1 + 1, 1, none⟩ = some (.slice none 0 0) ∧ wx.frozen? ⟨w.heap.size + 1 + 1, 0, none⟩ = false ∧ wx.frozen? ⟨w.heap.size + 1 + 1, 1, none⟩ = false ∧
    wx.cell? ⟨g, 0, none⟩ = some (.int .i64 m.size) ∧ wx.cell? ⟨g, 1, none⟩ = some vg ∧ wx.frozen? ⟨g, 0, none⟩ = false ∧ wx.frozen? ⟨g, 1, none⟩ = false := by
  refine ⟨?_, ?_, ?_, ?_, ?_, ?_, ?_, h.b2.frozen 0, h.b2.frozen 1, ?_, ?_, h.bg.frozen 0, h.bg.frozen 1⟩
  · have := h.b0.cell 0; simpa using this
  · have := h.b0.cell 1; simpa using this
  · have := h.b1.cell 0; simpa using this
  · have := h.b1.cell 33; simpa using this
  · have := h.b1.ldA 1 32 (by simp); rw [opC_ext] at this; exact this
  · have := h.b2.cell 0; simpa using this
  · have := h.b2.cell 1; simpa using this
  · have := h.bg.cell 0; simpa using this
  · have := h.bg.cell 1; simpa using this

theorem DoSt.grow {w wx wy : World} {m : Win} {v : Value} {o : OpM} {g : Nat} {vg : Value} {ob : Obj} (h : DoSt w wx m v o g vg) (hg : (wx.alloc ob).grownBy wy vg.ownBlock) :
    Blk wy w.heap.size 58 (mdC m v) ∧ Blk wy (w.heap.size + 1) 51 (opC o).toArray ∧ Blk wy (w.heap.size + 2) 58 #[.int .i64 0, .slice none 0 0] ∧ Blk wy g 58 #[.int .i64 m.size, vg] ∧ Fr0 w wy := by
  have hF : Fr (fun k => vg.ownBlock = some k) wx wy := Fr.app (w := wx.alloc ob) ((Fr.refl (fun k => vg.ownBlock = some k) wx).alloc _) hg (fun k hk _ => hk)
  refine ⟨h.b0.fr hF ?_, h.b1.fr hF ?_, h.b2.fr hF ?_, h.bg.fr hF ?_, h.fr.then_ hF ?_⟩
  · intro hk; have := own_ge _ h.own _ hk; omega
  · intro hk; have := own_ge _ h.own _ hk; omega
  · intro hk; have := own_ge _ h.own _ hk; omega
  · intro hk; exact own_ne h.own h.bg (by decide) _ hk rfl
  · intro i hi hk; have := own_ge _ h.own _ hk; omega

theorem setCell_drew (w : World) (p : Addr) (u : Value) : (w.setCell p u).drew = w.drew.setCell p u := rfl
/-- The last store of 'do': the model that is answered. -/
theorem do_end {w w7 : World} {m' : Win} {b2 : Array Value} {u r d : Value} {rs : List Res} {ds : List (By 32)} (hb : Blk w7 (w.heap.size + 2) 58 b2) (h2 : b2.size = 2) (hf : Fr0 w w7)
    (hs : Sl w7 72 34 u m'.l.length (offsC m'.l)) (hr : Sl w7 43 33 r rs.length (ressC rs)) (hd : Sl w7 37 32 d ds.length (idsC ds)) :
    ∃ wf, wf = (w7.setCell ⟨w.heap.size + 1 + 1, 0, none⟩ (.int .i64 m'.size)).setCell ⟨w.heap.size + 1 + 1, 1, none⟩ u ∧ ldA wf (w.heap.size + 1 + 1) 0 2 = some (mdC m' u) ∧
      Sl wf 72 34 u m'.l.length (offsC m'.l) ∧ Sl wf 43 33 r rs.length (ressC rs) ∧ Sl wf 37 32 d ds.length (idsC ds) ∧ Fr0 w wf := by
  have hF : Fr1 (w.heap.size + 2) w7 ((w7.setCell ⟨w.heap.size + 1 + 1, 0, none⟩ (.int .i64 m'.size)).setCell ⟨w.heap.size + 1 + 1, 1, none⟩ u) :=
    ((Fr.refl (fun k => k = w.heap.size + 2) w7).setCell (p := ⟨w.heap.size + 1 + 1, 0, none⟩) (fun _ => rfl) _).setCell (p := ⟨w.heap.size + 1 + 1, 1, none⟩) (fun _ => rfl) _
  have hB := (hb.set_ 0 (.int .i64 m'.size)).set_ 1 u
  refine ⟨_, rfl, ?_, hs.fr1 hF hb (by decide), hr.fr1 hF hb (by decide), hd.fr1 hF hb (by decide), hf.then_ (S := fun _ => False) hF (fun i hi e => by omega)⟩
  have h := hB.ldA 0 2 (by simp [h2])
  have e : ((b2.setIfInBounds 0 (.int .i64 m'.size)).setIfInBounds 1 u).extract 0 (0 + 2) = mdC m' u := by
    match b2, h2 with
    | ⟨[x, y]⟩, _ => rfl
  rw [e] at h
  exact h

theorem results_cell_tmp3 {fn : Func} {p u v x : Tmp} {ty : TypeId} (h : fn.results = #[.cell p ty, .tmp u, .tmp v, .tmp x]) (tmps : Array Value) (P : Program) (w : World) :
    (results fn tmps).run P w = ((asAddr (tmps.getD p undef)).run P w).andThen fun a w₁ => ((loadVar ty a).run P w₁).andThen fun c w₂ => .ok (.tuple #[c, tmps.getD u undef, tmps.getD v undef, tmps.getD x undef]) w₂ := by
  simp only [results, h]
  simp [Sem.run_bind, Result.andThen]
theorem bodyPost_agg4 {P : Program} {w : World} {fn : Func} {p u v x : Tmp} {T : TypeId} {d : TypeDesc} {n : Nat} (h : fn.results = #[.cell p T, .tmp u, .tmp v, .tmp x]) (hu : P.underlying T = some d) (hd : d.isRow = true) (hi : (P.info? T).map (·.size) = some n)
    {R : Ending → World → Prop} {a : Act} {b o : Nat} {cs : Array Value} (ht : a.tmps.getD p undef = .pointer (some ⟨b, o, none⟩)) (hl : ldA w b o n = some cs) (hd0 : a.defers = []) (hR : R (.returned (.tuple #[.agg cs, a.tmps.getD u undef, a.tmps.getD v undef, a.tmps.getD x undef])) w) : bodyPost P fn R .ret a w := by
  refine bodyPost_ret (v := .tuple #[.agg cs, a.tmps.getD u undef, a.tmps.getD v undef, a.tmps.getD x undef]) ?_ hd0 hR
  rw [results_cell_tmp3 h, ht]
  simp [asAddr, run_loadVar_ldA hu hd hi hl]

set_option maxHeartbeats 800000 in
set_option maxRecDepth 10000 in
theorem mdo_rest (m : Win) (v : Value) (o : OpM) (w : World) (hs : Sl w 72 34 v m.l.length (offsC m.l)) (hi : Inv m) (hl : m.l.length ≤ 10000) (hk2 : o.kind.toNat % 5 ≠ 2) (hk3 : o.kind.toNat % 5 ≠ 3) :
    Calls Try.prog 33 #[mdV m v, opV o] w (DoPost m o w) := by
  obtain ⟨A, c, rfl, hlc, hcm⟩ := hs.form
  unfold maxLen at hcm
  have HS := Lib.hid hs
  have HI := Lib.hid hi
  clear hs hi
  go_enter Try.func33, Try.ntmps33
  go_wp2_with fail
  obtain ⟨hb0, hb1, hb2, hf3, hz3⟩ := alloc3 w 58 51 58 (mdC m (.slice A m.l.length c)) (opC o).toArray #[.int .i64 0, .slice none 0 0]
  generalize (((w.alloc (.cells (mdC m (.slice A m.l.length c)) 58)).alloc (.cells (opC o).toArray 51)).alloc (.cells #[.int .i64 0, .slice none 0 0] 58)) = w3 at *
  have HS3 := Lib.hid (HS.out.fr0 hf3)
  have HB0 := Lib.hid hb0
  have HB1 := Lib.hid hb1
  have HB2 := Lib.hid hb2
  have HF3 := Lib.hid hf3
  have hc0 := hb0.cell 0
  have hc1 := hb0.cell 1
  simp at hc0 hc1
  have hk0 := hb1.cell 0
  have hk33 := hb1.cell 33
  simp at hk0 hk33
  have hlid := hb1.ldA 1 32 (by simp)
  have hcb0 := cell_alloc (cell_alloc hc0 (.cells #[] 72)) (.cells #[.int .i64 0, .slice none 0 0] 58)
  have hcb1 := cell_alloc (cell_alloc hc1 (.cells #[] 72)) (.cells #[.int .i64 0, .slice none 0 0] 58)
  have hcd0 := cell_alloc hc0 (.cells #[.int .i64 0, .slice none 0 0] 58)
  have hcd1 := cell_alloc hc1 (.cells #[.int .i64 0, .slice none 0 0] 58)
  have hce0 := cell_alloc (cell_alloc hc0 (.cells #[.int .i64 0, .slice none 0 0] 58)) (.cells #[] 72)
  have hce1 := cell_alloc (cell_alloc hc1 (.cells #[.int .i64 0, .slice none 0 0] 58)) (.cells #[] 72)
  have HZ3 := Lib.hid hz3
  have hca0 := cell_alloc hc0 (.cells #[] 72)
  have hca1 := cell_alloc hc1 (.cells #[] 72)
  clear hb0 hb1 hb2 hf3 hz3
  go_cut [8] from 12 to 18 (fun v8 wx => ∃ g A5 c5, v8 = .pointer (some ⟨g, 0, none⟩) ∧ w3.heap.size ≤ g ∧ Blk wx g 58 #[.int .i64 m.size, .slice A5 m.l.length c5] ∧ wx.ownsRow w3.heap.size 72 34 (.slice A5 m.l.length c5) m.l.length (offsC m.l) ∧ Fr0 w3 wx)
  case first =>
    go_region_held_law (fun w' => w'.cell? ⟨w.heap.size, 0, none⟩ = some (.int .i64 m.size) ∧ w'.cell? ⟨w.heap.size, 1, none⟩ = some (.slice A m.l.length c)) (first
      | exact ⟨by assumption, by assumption⟩
      | exact ⟨cell_alloc (by assumption) _, cell_alloc (by assumption) _⟩
      | exact ⟨cell_alloc (cell_alloc (by assumption) _) _, cell_alloc (cell_alloc (by assumption) _) _⟩
      | exact ⟨cell_far (cell_far (by assumption) (by have := HB0.out.lt; dsimp only; omega) _) (by have := HB0.out.lt; dsimp only; omega) _, cell_far (cell_far (by assumption) (by have := HB0.out.lt; dsimp only; omega) _) (by have := HB0.out.lt; dsimp only; omega) _⟩) (first
      | (refine step_app app_off' (by rfl) _ _ (by rfl) (v := .slice (some ⟨_, 0, none⟩) 0 0) (by rfl) (own_empty _ _ _) (by rfl) (m := m.l.length) (news := offsC m.l) (HS3.out.drew.alloc _) (offsC_one m.l) (by unfold maxLen; omega) (by omega) (by simp) ?_
         intro v5 w5 ho5 hg5 hat5
         obtain ⟨A5, c5, rfl, _, _⟩ := own_form ho5
         have hf5 : Fr0 w3 w5 := Fr.app (w := w3.drew.alloc _) (((Fr.refl _ w3).drew).alloc _) hg5 (fun j hj hlt => by simp [Value.ownBlock] at hj; omega)
         have hz0 : w5.cell? ⟨w.heap.size, 0, none⟩ = some (.int .i64 m.size) := (hf5.cell (p := ⟨w.heap.size, 0, none⟩) HB0.out.lt (fun h => h)).trans hc0
         have hz1 : w5.cell? ⟨w.heap.size, 1, none⟩ = some (.slice A m.l.length c) := (hf5.cell (p := ⟨w.heap.size, 1, none⟩) HB0.out.lt (fun h => h)).trans hc1
         have hz1a := cell_alloc hz1 (.cells #[.int .i64 0, .slice none 0 0] 58)
         have hz0a := cell_alloc hz0 (.cells #[.int .i64 0, .slice none 0 0] 58)
         have HF5 := Lib.hid hf5
         have HO5 := Lib.hid ho5
         clear ho5 hg5 hat5 hf5)
      | (refine step_app (w := ((w3.alloc (.cells #[] 72)).alloc (.cells #[.int .i64 0, .slice none 0 0] 58)).drew) app_off' (by rfl) _ _ (by rfl) (v := .slice (some ⟨_, 0, none⟩) 0 0) (by rfl) (own_fr0 (own_empty w3 _ _) (((Fr.refl _ _).alloc _).drew)) (by rfl) (m := m.l.length) (news := offsC m.l) ((HS3.out.alloc _).alloc _) (offsC_one m.l) (by unfold maxLen; omega) (by omega) (by simp <;> omega) ?_
         intro v5 w5 ho5 hg5 hat5
         obtain ⟨A5, c5, rfl, _, _⟩ := own_form ho5
         have hB5 : Blk w5 (w3.heap.size + 1) 58 #[.int .i64 0, .slice none 0 0] := by
           have h1 := Blk.new (w3.alloc (.cells #[] 72)) 58 #[.int .i64 0, .slice none 0 0]
           rw [show (w3.alloc (.cells #[] 72)).heap.size = w3.heap.size + 1 by simp] at h1
           exact (hg5.block (w3.heap.size + 1) (by simp) (by simp [Value.ownBlock])).trans h1
         have hf5 : Fr0 w3 w5 := Fr.app (w := ((w3.alloc (.cells #[] 72)).alloc (.cells #[.int .i64 0, .slice none 0 0] 58)).drew) ((((Fr.refl _ w3).alloc _).alloc _).drew) hg5 (fun j hj hlt => by simp [Value.ownBlock] at hj; omega)
         have hz0 : w5.cell? ⟨w.heap.size, 0, none⟩ = some (.int .i64 m.size) := (hf5.cell (p := ⟨w.heap.size, 0, none⟩) HB0.out.lt (fun h => h)).trans hc0
         have hz1 : w5.cell? ⟨w.heap.size, 1, none⟩ = some (.slice A m.l.length c) := (hf5.cell (p := ⟨w.heap.size, 1, none⟩) HB0.out.lt (fun h => h)).trans hc1
         have hz1a := cell_alloc hz1 (.cells #[.int .i64 0, .slice none 0 0] 58)
         have hz0a := cell_alloc hz0 (.cells #[.int .i64 0, .slice none 0 0] 58)
         have HF5 := Lib.hid hf5
         have HO5 := Lib.hid ho5
         have HB5 := Lib.hid hB5
         have hm0 := hB5.cell 0
         have hm1 := hB5.cell 1
         have hm0' := hB5.frozen 0
         have hm1' := hB5.frozen 1
         simp at hm0 hm1
         clear ho5 hg5 hat5 hf5 hB5)
      | (refine step_app (w := ((w3.alloc (.cells #[.int .i64 0, .slice none 0 0] 58)).alloc (.cells #[] 72)).drew) app_off' (by rfl) _ _ (by rfl) (v := .slice (some ⟨w3.heap.size + 1, 0, none⟩) 0 0) (by rfl) (own_mono (by have h := own_empty (w3.alloc (.cells #[.int .i64 0, .slice none 0 0] 58)) 72 34; rwa [show (w3.alloc (.cells #[.int .i64 0, .slice none 0 0] 58)).heap.size = w3.heap.size + 1 by simp] at h) (Nat.le_succ _)) (by rfl) (m := m.l.length) (news := offsC m.l) ((HS3.out.alloc _).alloc _) (offsC_one m.l) (by unfold maxLen; omega) (by omega) (by simp <;> omega) ?_
         intro v5 w5 ho5 hg5 hat5
         obtain ⟨A5, c5, rfl, _, _⟩ := own_form ho5
         have hB5 : Blk w5 w3.heap.size 58 #[.int .i64 0, .slice none 0 0] := by
           have h1 := (Blk.new w3 58 #[.int .i64 0, .slice none 0 0]).alloc (.cells #[] 72)
           exact (hg5.block w3.heap.size (by simp <;> omega) (by simp [Value.ownBlock])).trans h1
         have hf5 : Fr0 w3 w5 := Fr.app (w := ((w3.alloc (.cells #[.int .i64 0, .slice none 0 0] 58)).alloc (.cells #[] 72)).drew) ((((Fr.refl _ w3).alloc _).alloc _).drew) hg5 (fun j hj hlt => by simp [Value.ownBlock] at hj; omega)
         have hz0 : w5.cell? ⟨w.heap.size, 0, none⟩ = some (.int .i64 m.size) := (hf5.cell (p := ⟨w.heap.size, 0, none⟩) HB0.out.lt (fun h => h)).trans hc0
         have hz1 : w5.cell? ⟨w.heap.size, 1, none⟩ = some (.slice A m.l.length c) := (hf5.cell (p := ⟨w.heap.size, 1, none⟩) HB0.out.lt (fun h => h)).trans hc1
         have hz1a := cell_alloc hz1 (.cells #[.int .i64 0, .slice none 0 0] 58)
         have hz0a := cell_alloc hz0 (.cells #[.int .i64 0, .slice none 0 0] 58)
         have HF5 := Lib.hid hf5
         have HO5 := Lib.hid ho5
         have HB5 := Lib.hid hB5
         have hm0 := hB5.cell 0
         have hm1 := hB5.cell 1
         have hm0' := hB5.frozen 0
         have hm1' := hB5.frozen 1
         simp at hm0 hm1
         clear ho5 hg5 hat5 hf5 hB5))
    · go_wp2_with fail
      go_meet
      exact ⟨w5.heap.size, A5, c5, rfl, HF5.out.size, Blk.new _ _ _, by simpa using HO5.out.alloc _, HF5.out.alloc _⟩
    all_goals
      go_wp2_with fail
      go_meet
      refine ⟨_, A5, c5, rfl, by omega, ((HB5.out.set_ 0 (.int .i64 m.size)).set_ 1 (.slice A5 m.l.length c5)), ?_, ?_⟩
      · exact own_setFar (own_setFar (by simpa using HO5.out) HB5.out (by decide) _ _) (HB5.out.set_ 0 _) (by decide) _ _
      · exact (HF5.out.setCell (p := ⟨_, 0, none⟩) (fun h => by dsimp only at h; omega) _).setCell (p := ⟨_, 1, none⟩) (fun h => by dsimp only at h; omega) _
  case rest =>
    obtain ⟨g, A5, c5, rfl, hg, hbg, ho5, hf5⟩ := hcut
    have HD := Lib.hid (show DoSt w wc m (.slice A m.l.length c) o g (.slice A5 m.l.length c5) from
      ⟨Blk.fr (S := fun _ => False) HB0.out hf5 (fun h => h), Blk.fr (S := fun _ => False) HB1.out hf5 (fun h => h), Blk.fr (S := fun _ => False) HB2.out hf5 (fun h => h), hbg, by rw [← HZ3.out]; exact ho5, HS3.out.fr0 hf5, HF3.out.trans hf5, by have := HZ3.out; omega⟩)
    clear hca0 hca1 hcb0 hcb1 hcd0 hcd1 hce0 hce1 hc0 hc1 hk0 hk33 hlid hbg ho5 hf5 HB0 HB1 HB2 HS3 HF3 HS
    obtain ⟨hc0, hc1, hk0, hk33, hlid, hz0, hz1, hy0, hy1, hg0, hg1, hq0, hq1⟩ := HD.out.cells
    go_wp2_with fail
    refine (mfind_any m _ o.id _ HD.out.sl hl).mono ?_
    rintro e w7 ⟨rfl, hf7⟩
    have HD7 := Lib.hid (HD.out.step hf7)
    clear hc0 hc1 hk0 hk33 hlid hz0 hz1 hy0 hy1 hg0 hg1 hq0 hq1 hf7 HD
    obtain ⟨hc0, hc1, hk0, hk33, hlid, hz0, hz1, hy0, hy1, hg0, hg1, hq0, hq1⟩ := HD7.out.cells
    have hrun := fun w => run_rem5 w o.kind
    obtain ⟨r, hr5, hr⟩ : ∃ r, r < 5 ∧ o.kind.toNat % 5 = r := ⟨o.kind.toNat % 5, by omega, rfl⟩
    rw [hr] at hrun
    have HR := Lib.hid hr
    clear hr
    rcases (show r = 0 ∨ r = 1 ∨ r = 2 ∨ r = 3 ∨ r = 4 by omega) with rfl | rfl | rfl | rfl | rfl
    case inr.inr.inr.inr =>
      by_cases hn : 1 ≤ o.n ∧ o.n ≤ 64
      · have hP : performW m o = (⟨o.n, m.l⟩, 0, [], []) := by unfold performW resizeW; simp [HR.out, hn]
        have hn1 : ¬ o.n < 1 := by omega
        have hn2 : ¬ 64 < o.n := by omega
        have hgne : w.heap.size + 1 + 1 ≠ g := by have := HD7.out.hg; omega
        go_wp2_with fail
        obtain ⟨wf, hwf, hla, h1, h2, h3, h4⟩ := do_end (m' := ⟨o.n, m.l⟩) (rs := []) (ds := []) (HD7.out.b2.far (p := ⟨g, 0, none⟩) hgne (.int .i64 o.n)) rfl (HD7.out.fr.setCell (p := ⟨g, 0, none⟩) (fun h => by have := HD7.out.hg; dsimp only at h; omega) _) (Sl.of_own (own_setFar HD7.out.own HD7.out.bg (by decide) 0 _)) (Sl.nil _ _ _) (Sl.nil _ _ _)
        rw [← hwf]
        refine bodyPost_agg4 (n := 2) rfl Try.underlying58 rfl (by kernel_rfl) (by rfl) hla rfl ?_
        unfold DoPost
        rw [hP]
        exact ⟨_, _, _, rfl, h1, h2, h3, h4⟩
      · have hP : performW m o = (m, 2, [], []) := by unfold performW resizeW; simp [HR.out, hn]
        rcases (show o.n < 1 ∨ (¬ o.n < 1 ∧ 64 < o.n) by omega) with hn1 | ⟨hn1, hn2⟩
        all_goals
          go_wp2_with fail
          obtain ⟨wf, hwf, hla, h1, h2, h3, h4⟩ := do_end (m' := m) (rs := []) (ds := []) HD7.out.b2 rfl HD7.out.fr HD7.out.sl (Sl.nil _ _ _) (Sl.nil _ _ _)
          rw [← hwf]
          refine bodyPost_agg4 (n := 2) rfl Try.underlying58 rfl (by kernel_rfl) (by rfl) hla rfl ?_
          unfold DoPost
          rw [hP]
          exact ⟨_, _, _, rfl, h1, h2, h3, h4⟩
    case inl =>
      by_cases hn : 0 ≤ o.n ∧ o.n ≤ 65536
      · have hn1 : ¬ o.n < 0 := by omega
        have hn2 : ¬ 65536 < o.n := by omega
        cases hfi : m.l.find? (hasId o.id) with
        | some x =>
          have hP : performW m o = (m, 7, [], []) := by unfold performW offerW; simp [HR.out, hn, hfi]
          obtain ⟨k, hk, hix, -, -, -⟩ := idx_pos _ _ _ hfi
          have hge : (0 : Int) ≤ idx (hasId o.id) m.l := by omega
          go_wp2_with fail
          obtain ⟨wf, hwf, hla, h1, h2, h3, h4⟩ := do_end (m' := m) (rs := []) (ds := []) HD7.out.b2 rfl HD7.out.fr HD7.out.sl (Sl.nil _ _ _) (Sl.nil _ _ _)
          rw [← hwf]
          refine bodyPost_agg4 (n := 2) rfl Try.underlying58 rfl (by kernel_rfl) (by rfl) hla rfl ?_
          unfold DoPost
          rw [hP]
          exact ⟨_, _, _, rfl, h1, h2, h3, h4⟩
        | none =>
          have hix := idx_neg _ _ hfi
          have hge : ¬ (0 : Int) ≤ idx (hasId o.id) m.l := by omega
          go_wp2_with fail
          go_region_held3 (fun w' => w'.cell? ⟨w.heap.size, 0, none⟩ = some (.int .i64 m.size) ∧ w'.cell? ⟨w.heap.size, 1, none⟩ = some (.slice A m.l.length c)) (first | exact ⟨by assumption, by assumption⟩)
            (first | (go_at_call 27; refine (mout_any m _ _ (HD7.out.step ((Fr.refl _ _).drew)).sl HI.out hl).mono ?_
                      rintro e w9 ⟨u, rfl, ho, hf⟩
                      obtain ⟨Au, cu, rfl, _, _⟩ := own_form ho
                      have HD9 := Lib.hid (HD7.out.step (((Fr.refl _ _).drew).trans hf))
                      clear ho hf hc0 hc1 hk0 hk33 hlid hz0 hz1 hy0 hy1 hg0 hg1 hq0 hq1
                      obtain ⟨hc0, hc1, hk0, hk33, hlid, hz0, hz1, hy0, hy1, hg0, hg1, hq0, hq1⟩ := HD9.out.cells))
          by_cases hb : m.size ≤ ((outs m.l).length : Int)
          · have hP : performW m o = (m, 25, [], []) := by unfold performW offerW; simp [HR.out, hn, hfi, hb]
            go_wp2_with fail
            obtain ⟨wf, hwf, hla, h1, h2, h3, h4⟩ := do_end (m' := m) (rs := []) (ds := []) HD9.out.b2 rfl HD9.out.fr HD9.out.sl (Sl.nil _ _ _) (Sl.nil _ _ _)
            rw [← hwf]
            refine bodyPost_agg4 (n := 2) rfl Try.underlying58 rfl (by kernel_rfl) (by rfl) hla rfl ?_
            unfold DoPost
            rw [hP]
            exact ⟨_, _, _, rfl, h1, h2, h3, h4⟩
          · have hP : performW m o = (⟨m.size, m.l ++ [⟨o.id, o.n, 0⟩]⟩, 0, [], []) := by unfold performW offerW; simp [HR.out, hn, hfi, hb]
            obtain ⟨v', w10, hrun2, hown2, hgr2, hat2⟩ := run_app (w9.alloc (.cells (offC ⟨o.id, o.n, 0⟩).toArray 72)) app_off' 56 (HD9.out.own.alloc _) (Sl.new w9 72 34 1 (offC ⟨o.id, o.n, 0⟩) (by simp) (by unfold maxLen; omega)) (fun u hu => List.all_eq_true.1 (offC_one _) u hu) (by unfold maxLen; omega) (by omega) (by have := HD9.out.own; have := HD9.out.b2.lt; simp; omega)
            obtain ⟨A10, c10, rfl, _, _⟩ := own_form hown2
            obtain ⟨hb0, hb1, hb2, hbg, hfw⟩ := HD9.out.grow hgr2
            have HB2 := Lib.hid hb2
            have HBG := Lib.hid hbg
            have HFW := Lib.hid hfw
            have HO10 := Lib.hid (show w10.ownsRow (w.heap.size + 3) 72 34 (.slice A10 (m.l.length + 1) c10) (m.l ++ [(⟨o.id, o.n, 0⟩ : Off)]).length (offsC (m.l ++ [(⟨o.id, o.n, 0⟩ : Off)])) by simpa [offsC] using hown2)
            have hz0 := hb2.cell 0
            have hz1 := hb2.cell 1
            have hy0 := hb2.frozen 0
            have hy1 := hb2.frozen 1
            have hx0 := hbg.cell 0
            have hx1 := hbg.cell 1
            have hq0 := hbg.frozen 0
            have hq1 := hbg.frozen 1
            simp at hz0 hz1 hx0 hx1
            have hgne : w.heap.size + 1 + 1 ≠ g := by have := HD7.out.hg; omega
            clear hb0 hb1 hb2 hbg hfw hown2 hgr2 hat2
            go_wp2_with fail
            have hSl : Sl (w10.setCell ⟨g, 1, none⟩ (.slice A10 (m.l.length + 1) c10)) 72 34 (.slice A10 (m.l.length + 1) c10) (⟨m.size, m.l ++ [⟨o.id, o.n, 0⟩]⟩ : Win).l.length (offsC (⟨m.size, m.l ++ [⟨o.id, o.n, 0⟩]⟩ : Win).l) := Sl.of_own (own_setFar HO10.out HBG.out (by decide) 1 _)
            have hB2 := HB2.out.far (p := ⟨g, 1, none⟩) hgne (.slice A10 (m.l.length + 1) c10)
            have hF2 : Fr0 w (w10.setCell ⟨g, 1, none⟩ (.slice A10 (m.l.length + 1) c10)) := HFW.out.setCell (p := ⟨g, 1, none⟩) (fun h => by have := HD7.out.hg; dsimp only at h; omega) _
            obtain ⟨wf, hwf, hla, h1, h2, h3, h4⟩ := do_end (rs := []) (ds := []) hB2 rfl hF2 hSl (Sl.nil _ _ _) (Sl.nil _ _ _)
            rw [← hwf]
            refine bodyPost_agg4 (n := 2) rfl Try.underlying58 rfl (by kernel_rfl) (by rfl) hla rfl ?_
            unfold DoPost
            rw [hP]
            exact ⟨_, _, _, rfl, h1, h2, h3, h4⟩
      · have hP : performW m o = (m, 2, [], []) := by unfold performW offerW; simp [HR.out, hn]
        rcases (show o.n < 0 ∨ (¬ o.n < 0 ∧ 65536 < o.n) by omega) with hn1 | ⟨hn1, hn2⟩
        all_goals
          go_wp2_with fail
          obtain ⟨wf, hwf, hla, h1, h2, h3, h4⟩ := do_end (m' := m) (rs := []) (ds := []) HD7.out.b2 rfl HD7.out.fr HD7.out.sl (Sl.nil _ _ _) (Sl.nil _ _ _)
          rw [← hwf]
          refine bodyPost_agg4 (n := 2) rfl Try.underlying58 rfl (by kernel_rfl) (by rfl) hla rfl ?_
          unfold DoPost
          rw [hP]
          exact ⟨_, _, _, rfl, h1, h2, h3, h4⟩
    case inr.inl =>
      cases hfi : m.l.find? (hasId o.id) with
      | none =>
        have hP : performW m o = (m, 8, [], []) := by unfold performW answerW; simp [HR.out, hfi]
        have hix := idx_neg _ _ hfi
        have hge : idx (hasId o.id) m.l < (0 : Int) := by omega
        go_wp2_with fail
        obtain ⟨wf, hwf, hla, h1, h2, h3, h4⟩ := do_end (m' := m) (rs := []) (ds := []) HD7.out.b2 rfl HD7.out.fr HD7.out.sl (Sl.nil _ _ _) (Sl.nil _ _ _)
        rw [← hwf]
        refine bodyPost_agg4 (n := 2) rfl Try.underlying58 rfl (by kernel_rfl) (by rfl) hla rfl ?_
        unfold DoPost
        rw [hP]
        exact ⟨_, _, _, rfl, h1, h2, h3, h4⟩
      | some x =>
        obtain ⟨k, hk, hix, rfl, -, -⟩ := idx_pos _ _ _ hfi
        have hge : ¬ idx (hasId o.id) m.l < (0 : Int) := by omega
        by_cases hn : 1 ≤ o.n ∧ o.n ≤ 5
        · have hn1 : ¬ o.n < 1 := by omega
          have hn2 : ¬ 5 < o.n := by omega
          obtain ⟨b, off, rfl, hbs, -, -, h33⟩ := off_at HD7.out.sl hk
          have hki : (0 : Int) ≤ (k : Int) := by omega
          have hkl : (k : Int) < (m.l.length : Int) := by omega
          cases hp : poss m.l[k].oc o.n with
          | false =>
            have hP : performW m o = (m, 10, [], []) := by unfold performW answerW; simp [HR.out, hfi, hn, hp]
            have hpo : ∀ w, Calls Try.prog 31 #[.int .i64 m.l[k].oc, .int .i64 o.n] w fun e w' => e = .returned (.bool false) ∧ w = w' := fun w => by have := possible_any m.l[k].oc o.n w; rwa [hp] at this
            clear hfi
            go_wp2_with fail
            go_region_held3 (fun w' => w'.cell? ⟨w.heap.size, 1, none⟩ = some (.slice (some ⟨b, off, none⟩) m.l.length c) ∧ w'.cell? ⟨b, off + k * 34 + 33, none⟩ = some (.int .i64 m.l[k].oc) ∧ w'.cell? ⟨w.heap.size + 1, 33, none⟩ = some (.int .i64 o.n)) (first | (refine ⟨?_, ?_, ?_⟩ <;> assumption) | go_keep)
              (first | (go_at_call 31; refine (hpo _).mono ?_; rintro e w' ⟨rfl, rfl⟩))
            go_wp2_with fail
            have HDd := HD7.out.step ((Fr.refl (fun _ => False) w7).drew)
            obtain ⟨wf, hwf, hla, h1, h2, h3, h4⟩ := do_end (m' := m) (rs := []) (ds := []) HDd.b2 rfl HDd.fr HDd.sl (Sl.nil _ _ _) (Sl.nil _ _ _)
            simp only [setCell_drew]
            rw [← hwf]
            refine bodyPost_agg4 (n := 2) rfl Try.underlying58 rfl (by kernel_rfl) (by rfl) hla rfl ?_
            unfold DoPost
            rw [hP]
            exact ⟨_, _, _, rfl, h1, h2, h3, h4⟩
          | true =>
            have HSO := setOc_eq m.l o.id o.n k hk hix
            obtain ⟨m', hm', hms, hml⟩ : ∃ m' : Win, m' = ⟨m.size, m.l.set k { m.l[k] with oc := o.n }⟩ ∧ m'.size = m.size ∧ m'.l.length = m.l.length := ⟨⟨m.size, m.l.set k { m.l[k] with oc := o.n }⟩, rfl, rfl, by simp⟩
            have hP : performW m o = (m', 0, [], []) := by rw [hm']; unfold performW answerW; simp [HR.out, hfi, hn, hp, HSO]
            have hpo : ∀ w, Calls Try.prog 31 #[.int .i64 m.l[k].oc, .int .i64 o.n] w fun e w' => e = .returned (.bool true) ∧ w = w' := fun w => by have := possible_any m.l[k].oc o.n w; rwa [hp] at this
            obtain ⟨gb, cap, hv, hgb, hlt⟩ := HD7.out.own.form (by omega)
            injection hv with hv1 _ hv2
            subst hv1 hv2
            have hne' : gb ≠ g := own_ne HD7.out.own HD7.out.bg (by decide) gb rfl
            have hne : g ≠ gb := fun h => hne' h.symm
            have hne2 : w.heap.size + 1 + 1 ≠ gb := by omega
            have hlc' : m.l.length ≤ c5 := by
              obtain ⟨A', c', hv, h1, h2⟩ := own_form HD7.out.own
              injection hv with _ _ h3; omega
            have hc6 : w7.cell? ⟨gb, k * 34 + 33, none⟩ = some (.int .i64 m.l[k].oc) := by
              rw [HD7.out.own.cellAt _ (by omega)]
              have := congrArg (·[33]?) (offsC_cut m.l k hk)
              simp only [List.getElem?_take, List.getElem?_drop] at this
              rw [if_pos (by omega)] at this
              rw [this]; simp
            have hf6 : w7.frozen? ⟨gb, k * 34 + 33, none⟩ = false := HD7.out.own.frozenAt _
            have HDd := HD7.out.step ((Fr.refl (fun _ => False) w7).drew)
            have ho2 := (HDd.own.stored (k * 34 + 33) (.int .i64 o.n)).1
            rw [offsC_set m.l k hk] at ho2
            have hSl : Sl (w7.drew.setCell ⟨gb, k * 34 + 33, none⟩ (.int .i64 o.n)) 72 34 (.slice (some ⟨gb, 0, none⟩) m.l.length c5) m'.l.length (offsC m'.l) := by
              rw [hml, hm']
              exact Sl.of_own ho2
            clear hm' hml
            have hB2 := HDd.b2.far (p := ⟨gb, k * 34 + 33, none⟩) hne2 (.int .i64 o.n)
            have hF2 : Fr0 w (w7.drew.setCell ⟨gb, k * 34 + 33, none⟩ (.int .i64 o.n)) := HDd.fr.setCell (p := ⟨gb, k * 34 + 33, none⟩) (fun h => by dsimp only at h; omega) _
            have HSL := Lib.hid hSl
            have HB2 := Lib.hid hB2
            have HF2 := Lib.hid hF2
            clear hfi hSl hB2 hF2 ho2 HDd
            go_wp2_with fail
            go_region_held3 (fun w' => w'.cell? ⟨w.heap.size, 1, none⟩ = some (.slice (some ⟨b, off, none⟩) m.l.length c) ∧ w'.cell? ⟨b, off + k * 34 + 33, none⟩ = some (.int .i64 m.l[k].oc) ∧ w'.cell? ⟨w.heap.size + 1, 33, none⟩ = some (.int .i64 o.n)) (first | (refine ⟨?_, ?_, ?_⟩ <;> assumption) | go_keep)
              (first | (go_at_call 31; refine (hpo _).mono ?_; rintro e w' ⟨rfl, rfl⟩))
            go_wp2_with fail
            obtain ⟨wf, hwf, hla, h1, h2, h3, h4⟩ := do_end (rs := []) (ds := []) HB2.out rfl HF2.out HSL.out (Sl.nil _ _ _) (Sl.nil _ _ _)
            rw [hms] at hwf
            simp only [setCell_drew]
            rw [← hwf]
            refine bodyPost_agg4 (n := 2) rfl Try.underlying58 rfl (by kernel_rfl) (by rfl) hla rfl ?_
            unfold DoPost
            rw [hP]
            exact ⟨_, _, _, rfl, h1, h2, h3, h4⟩
        · have hP : performW m o = (m, 11, [], []) := by unfold performW answerW; simp [HR.out, hfi, hn]
          clear hfi
          rcases (show o.n < 1 ∨ (¬ o.n < 1 ∧ 5 < o.n) by omega) with hn1 | ⟨hn1, hn2⟩
          all_goals
            go_wp2_with fail
            obtain ⟨wf, hwf, hla, h1, h2, h3, h4⟩ := do_end (m' := m) (rs := []) (ds := []) HD7.out.b2 rfl HD7.out.fr HD7.out.sl (Sl.nil _ _ _) (Sl.nil _ _ _)
            rw [← hwf]
            refine bodyPost_agg4 (n := 2) rfl Try.underlying58 rfl (by kernel_rfl) (by rfl) hla rfl ?_
            unfold DoPost
            rw [hP]
            exact ⟨_, _, _, rfl, h1, h2, h3, h4⟩
    case inr.inr.inl => exact absurd HR.out hk2
    case inr.inr.inr.inl => exact absurd HR.out hk3
end Go.Proofs.Ytbcconeebjmjdaa
