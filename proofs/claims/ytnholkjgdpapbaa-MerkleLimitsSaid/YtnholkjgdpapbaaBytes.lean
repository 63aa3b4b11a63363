/- Byte slices of the call's own: literals and append, met by name. No condition beyond the lengths that are named. -/
import Derived.Test.YtnholkjgdpapbaaShaV
import Derived.Test.YtnholkjgdpapbaaOpen
namespace Go.Proofs.Ytnholkjgdpapbaa
set_option linter.unusedVariables false
set_option linter.unusedSimpArgs false
set_option maxRecDepth 10000
open Go.RowKit

theorem app_u8 : appOk Try.prog 22 5 1 1 = true := by kernel_rfl
@[go_sem] theorem run_sl_u8_0 (w : World) : (bsl 22 0 #[]).run Try.prog w = .ok (.slice (some ⟨w.heap.size, 0, none⟩) 0 0) (w.alloc (.cells #[] 5)) := by kernel_rfl
@[go_sem] theorem run_sl_u8_1 (w : World) (x : UInt8) : (bsl 22 1 #[(0, u8 x)]).run Try.prog w = .ok (.slice (some ⟨w.heap.size, 0, none⟩) 1 1) (w.alloc (.cells #[u8 x] 5)) := by kernel_rfl
@[go_sem] theorem run_sl_u8_128 (w : World) : (bsl 22 1 #[(0, .int .u8 128)]).run Try.prog w = .ok (.slice (some ⟨w.heap.size, 0, none⟩) 1 1) (w.alloc (.cells #[u8 128] 5)) := by kernel_rfl
@[go_sem] theorem run_sl_u8_z (w : World) : (bsl 22 1 #[(0, .int .u8 0)]).run Try.prog w = .ok (.slice (some ⟨w.heap.size, 0, none⟩) 1 1) (w.alloc (.cells #[u8 0] 5)) := by kernel_rfl
@[simp] theorem bs_drop (l : List UInt8) (k : Nat) : (bs l).drop k = bs (l.drop k) := by simp [bs]
@[simp] theorem bs_append (a b : List UInt8) : bs a ++ bs b = bs (a ++ b) := by simp [bs]
theorem bs_one' (l : List UInt8) : ∀ u ∈ bs l, u.oneCell' = true := by
  intro u hu
  obtain ⟨b, _, rfl⟩ := List.mem_map.1 hu
  rfl

/-- The slice v reads the bytes l, out of a block below B, of whatever element type. -/
def Rd (w : World) (B : Nat) (v : Value) (l : List UInt8) : Prop :=
  ∃ A c, v = .slice A l.length c ∧ l.length ≤ c ∧ c ≤ maxLen ∧ (0 < l.length → ∃ b off, A = some ⟨b, off, none⟩ ∧ b < B ∧ ∀ j x, l[j]? = some x → w.cell? ⟨b, off + j, none⟩ = some (u8 x))
theorem Rd.form {w : World} {B : Nat} {v : Value} {l : List UInt8} (h : Rd w B v l) : ∃ A c, v = .slice A l.length c ∧ l.length ≤ c ∧ c ≤ maxLen := by
  obtain ⟨A, c, hv, h1, h2, _⟩ := h; exact ⟨A, c, hv, h1, h2⟩
theorem Rd.at_ {w : World} {B : Nat} {A : Option Addr} {n c : Nat} {l : List UInt8} (h : Rd w B (.slice A n c) l) (hn : 0 < l.length) : ∃ b off, A = some ⟨b, off, none⟩ ∧ b < B ∧ b < w.heap.size ∧ ∀ j x, l[j]? = some x → w.cell? ⟨b, off + j, none⟩ = some (u8 x) := by
  obtain ⟨A', c', hv, _, _, hr⟩ := h
  injection hv with h1
  subst h1
  obtain ⟨b, off, hA, hb, hx⟩ := hr hn
  exact ⟨b, off, hA, hb, World.block_lt_of_cell? w _ (hx 0 _ (List.getElem?_eq_getElem hn)), hx⟩
theorem Rd.fr {w w' : World} {B : Nat} {v : Value} {l : List UInt8} {S : Nat → Prop} (h : Rd w B v l) (hf : Fr S w w') (hS : ∀ k, k < B → ¬ S k) : Rd w' B v l := by
  obtain ⟨A, c, hv, h1, h2, hr⟩ := h
  refine ⟨A, c, hv, h1, h2, fun hn => ?_⟩
  obtain ⟨b, off, hA, hb, hx⟩ := hr hn
  exact ⟨b, off, hA, hb, fun j x hj => (hf.cell (p := ⟨b, off + j, none⟩) (World.block_lt_of_cell? w _ (hx j x hj)) (hS b hb)).trans (hx j x hj)⟩
theorem Rd.fr0 {w w' : World} {B : Nat} {v : Value} {l : List UInt8} (h : Rd w B v l) (hf : Fr0 w w') : Rd w' B v l := h.fr hf (fun _ _ h => h)
theorem Rd.fr1 {w w' : World} {B g : Nat} {v : Value} {l : List UInt8} (h : Rd w B v l) (hf : Fr1 g w w') (hg : B ≤ g) : Rd w' B v l := h.fr hf (fun k hk e => by omega)
theorem Rd.alloc {w : World} {B : Nat} {v : Value} {l : List UInt8} (h : Rd w B v l) (o : Obj) : Rd (w.alloc o) B v l := h.fr0 ((Fr.refl _ _).alloc o)
theorem Rd.below {w w' : World} {B : Nat} {v : Value} {l : List UInt8} (h : Rd w B v l) (hb : Below B w w') : Rd w' B v l := by
  obtain ⟨A, c, hv, h1, h2, hr⟩ := h
  refine ⟨A, c, hv, h1, h2, fun hn => ?_⟩
  obtain ⟨b, off, hA, hlt, hx⟩ := hr hn
  exact ⟨b, off, hA, hlt, fun j x hj => (hb.cell (p := ⟨b, off + j, none⟩) hlt).trans (hx j x hj)⟩
theorem Rd.mono {w : World} {B B' : Nat} {v : Value} {l : List UInt8} (h : Rd w B v l) (hB : B ≤ B') : Rd w B' v l := by
  obtain ⟨A, c, hv, h1, h2, hr⟩ := h
  refine ⟨A, c, hv, h1, h2, fun hn => ?_⟩
  obtain ⟨b, off, hA, hlt, hx⟩ := hr hn
  exact ⟨b, off, hA, by omega, hx⟩
theorem Rd.nil (w : World) (B : Nat) : Rd w B (.slice none 0 0) [] := ⟨none, 0, rfl, Nat.le_refl _, Nat.zero_le _, fun h => absurd h (by simp)⟩
theorem Sl.rd {w : World} {E : TypeId} {v : Value} {n : Nat} {l : List UInt8} (h : Sl w E 1 v n (bs l)) : Rd w w.heap.size v l := by
  obtain ⟨hl, A, c, rfl, h1, h2, hr⟩ := h
  have hn : n = l.length := by simpa using hl.symm
  subst hn
  refine ⟨A, c, rfl, h1, h2, fun hn => ?_⟩
  obtain ⟨b, off, cur, fz, rfl, hh, hx⟩ := hr hn
  exact ⟨b, off, rfl, heap_lt hh, fun j x hj => by simp [World.cell?, hh]; exact hx j (u8 x) (by simp [bs, hj])⟩
theorem Arg.rd {w : World} {B : Nat} {A : Option Addr} {n c : Nat} {l : List UInt8} (h : Arg w B A n c 1 (bs l)) : Rd w B (.slice A n c) l := by
  have hn : n = l.length := by simpa using h.len.symm
  subst hn
  refine ⟨A, c, rfl, h.cap, h.max, fun hn => ?_⟩
  obtain ⟨b, off, hA, hlt, hx⟩ := h.at_ hn
  exact ⟨b, off, hA, hlt, fun j x hj => hx j (u8 x) (by simp [bs, hj])⟩
/-- A whole array's cells, sliced. -/
theorem Rd.of_blk {w : World} {b : Nat} {t : TypeId} {l : List UInt8} (h : Blk w b t (bs l).toArray) (n : Nat) (hn : l.length = n) (hm : n ≤ maxLen) : Rd w (b + 1) (.slice (some ⟨b, 0, none⟩) n n) l := by
  subst hn
  refine ⟨some ⟨b, 0, none⟩, l.length, rfl, Nat.le_refl _, hm, fun _ => ⟨b, 0, rfl, Nat.lt_succ_self _, fun j x hj => ?_⟩⟩
  rw [Nat.zero_add, h.cell j]; simp [bs, hj]
theorem Rd.cutFront {w : World} {B : Nat} {A : Option Addr} {n c : Nat} {l : List UInt8} (h : Rd w B (.slice A n c) l) (k : Nat) (hk : k ≤ l.length) : Rd w B (.slice A k c) (l.take k) := by
  obtain ⟨A', c', hv, h1, h2, hr⟩ := h
  injection hv with hA _ hc
  subst hA; subst hc
  have hl : (l.take k).length = k := by simp; omega
  refine ⟨A, c, by rw [hl], by omega, h2, fun hn => ?_⟩
  obtain ⟨b, off, hA, hb, hx⟩ := hr (by omega)
  refine ⟨b, off, hA, hb, fun j x hj => hx j x ?_⟩
  rw [List.getElem?_take] at hj
  split at hj
  · exact hj
  · cases hj
/-- append of what a slice reads. -/
theorem run_app_rd {P : Program} (w : World) {t e : TypeId} {size bytes : Nat} (hok : appOk P t e size bytes = true) (ty : TypeId) {base : Nat} {v : Value} {n : Nat} {xs : List Value} (hown : w.ownsRow base e size v n xs)
    {A : Option Addr} {m c : Nat} {news : List Value} (hl : news.length = m * size) (hr : 0 < m → ∃ b off, A = some ⟨b, off, none⟩ ∧ ∀ j u, news[j]? = some u → w.cell? ⟨b, off + j, none⟩ = some u) (hA : A = none → m = 0)
    (h1 : ∀ u ∈ news, u.oneCell' = true) (h63 : n + m ≤ maxLen) (hbytes : (n + m) * bytes ≤ 140737488355328) (hbase : base ≤ w.heap.size) :
    ∃ v' w', (app #[t, t] ty #[v, .slice A m c]).run P w = .ok v' w' ∧ w'.ownsRow base e size v' (n + m) (xs ++ news) ∧ w.grownBy w' v.ownBlock ∧ (v'.ownBlock = v.ownBlock ∨ v'.ownBlock = some w.heap.size) := by
  unfold appOk at hok
  split at hok
  · rename_i e' i ht hi
    simp only [Bool.and_eq_true, beq_iff_eq, decide_eq_true_eq] at hok
    obtain ⟨⟨⟨⟨rfl, hz⟩, hsz⟩, h0⟩, hby⟩ := hok
    cases hzz : i.zero with
    | none => simp [hzz] at hz
    | some z =>
      rcases A with _ | ad
      · obtain rfl := hA rfl
        have hn : news = [] := List.eq_nil_of_length_eq_zero (by simpa using hl)
        subst hn
        exact ⟨v, w, run_app_none w base t ty e' i size ht hi v n xs hown c, by simpa using hown, World.grownBy.refl w _, .inl rfl⟩
      · have hcells : ∀ j u, news[j]? = some u → w.cell? (ad.add j) = some u := by
          intro j u hu
          have hm : 0 < m := by
            rcases Nat.eq_zero_or_pos m with h | h
            · subst h
              have : news = [] := List.eq_nil_of_length_eq_zero (by simpa using hl)
              subst this; simp at hu
            · exact h
          obtain ⟨b, off, hAd, hx⟩ := hr hm
          injection hAd with hAd
          subst hAd
          rw [Addr.add_mid]
          exact hx j u hu
        obtain ⟨v', w', hrun, h2, h3, _, h5⟩ := run_append_own_at (P := P) w base t ty e' i z size bytes ht hi hzz hsz hby (by simpa [hzz] using hz) h0 v n xs hown ad m c news hl hcells h1 h63 hbytes hbase
        exact ⟨v', w', hrun, h2, h3, h5⟩
  · cases hok
/-- append of bytes to bytes of the call's own. -/
theorem app_by (w : World) {base B : Nat} {v x : Value} {l m : List UInt8} (hown : w.ownsRow base 5 1 v l.length (bs l)) (hr : Rd w B x m) (hb : l.length + m.length ≤ 140737488355328) (hbase : base ≤ w.heap.size) :
    ∃ A c w', (app #[22, 22] 22 #[v, x]).run Try.prog w = .ok (.slice A (l ++ m).length c) w' ∧ w'.ownsRow base 5 1 (.slice A (l ++ m).length c) (l ++ m).length (bs (l ++ m)) ∧ Fr (fun k => v.ownBlock = some k) w w' ∧ (∀ k, v.ownBlock = some k → base ≤ k) ∧
      ((Value.slice A (l ++ m).length c).ownBlock = v.ownBlock ∨ (Value.slice A (l ++ m).length c).ownBlock = some w.heap.size) := by
  obtain ⟨Ax, cx, rfl, _, _, hx⟩ := hr
  obtain ⟨v', w', hrun, ho, hg, ha⟩ := run_app_rd w app_u8 22 hown (A := Ax) (m := m.length) (c := cx) (news := bs m) (by simp) (fun hm => by
      obtain ⟨b, off, hA, _, hc⟩ := hx hm
      refine ⟨b, off, hA, fun j u hu => ?_⟩
      simp only [bs, List.getElem?_map, Option.map_eq_some_iff] at hu
      obtain ⟨y, hy, rfl⟩ := hu
      exact hc j y hy) (fun hA => by
      rcases Nat.eq_zero_or_pos m.length with h | h
      · exact h
      · obtain ⟨b, off, hA', _⟩ := hx h; rw [hA] at hA'; cases hA') (bs_one' _) (by unfold maxLen; omega) (by omega) hbase
  rw [← List.length_append, bs_append] at ho
  obtain ⟨A, c, rfl, _, _⟩ := own_form ho
  exact ⟨A, c, w', hrun, ho, Fr.of_grown hg (fun k _ hk => hk.symm), own_ge _ hown, ha⟩
theorem own_bs0 (w : World) : (w.alloc (.cells #[] 5)).ownsRow w.heap.size 5 1 (.slice (some ⟨w.heap.size, 0, none⟩) 0 0) ([] : List UInt8).length (bs []) := own_empty w 5 1
theorem own_nil8 (w : World) (base : Nat) : w.ownsRow base 5 1 (.slice none 0 0) ([] : List UInt8).length (bs []) := World.ownsRow_nil _ _ _ _
theorem own_bs1 (w : World) (x : UInt8) : (w.alloc (.cells #[u8 x] 5)).ownsRow w.heap.size 5 1 (.slice (some ⟨w.heap.size, 0, none⟩) 1 1) [x].length (bs [x]) :=
  ⟨by simp, .inr ⟨w.heap.size, 1, #[u8 x], rfl, Nat.le_refl _, alloc_heap_new w _, Nat.le_refl _, by unfold maxLen; omega, by simp, by simp [bs]⟩⟩
theorem sl_bs1 (w : World) (x : UInt8) : Rd (w.alloc (.cells #[u8 x] 5)) (w.alloc (.cells #[u8 x] 5)).heap.size (.slice (some ⟨w.heap.size, 0, none⟩) 1 1) [x] := Sl.rd (Sl.of_own (own_bs1 w x))
end Go.Proofs.Ytnholkjgdpapbaa
