/- One-time signatures: Public, Compress, ends, Recover, Sign. Printed by gen_pub.py. No condition beyond the ranges that are named. -/
import Derived.Test.YtjdbfedkadoklaaClos
namespace Go.Proofs.Ytjdbfedkadoklaa
set_option linter.unusedVariables false
set_option linter.unusedSimpArgs false
set_option maxRecDepth 10000
open Go.RowKit
attribute [local go_sem ↓] Go.wp_at_zero Go.wp_at_succ

def pubF (seed : List UInt8) (leaf c : Nat) : List UInt8 := advB leaf c 0 (15 - 0) (secB seed leaf c)
def sigF (seed : List UInt8) (leaf : Nat) (d : List UInt8) (c : Nat) : List UInt8 := advB leaf c 0 (splN d c - 0) (secB seed leaf c)
def endF (leaf : Nat) (d s : List UInt8) (c : Nat) : List UInt8 := advB leaf c (splN d c) (15 - splN d c) (seg s c)
theorem pubF_length (seed : List UInt8) (leaf c : Nat) : (pubF seed leaf c).length = 16 := advB_length _ _ _ _ _ (secB_length _ _ _)
theorem sigF_length (seed : List UInt8) (leaf : Nat) (d : List UInt8) (c : Nat) : (sigF seed leaf d c).length = 16 := advB_length _ _ _ _ _ (secB_length _ _ _)
/-- The ends, of 35 values whatever the index. -/
def endG (leaf : Nat) (d s : List UInt8) (c : Nat) : List UInt8 := if c < 35 then endF leaf d s c else List.replicate 16 0
theorem endG_length {s : List UInt8} (h : s.length = 560) (leaf : Nat) (d : List UInt8) (c : Nat) : (endG leaf d s c).length = 16 := by
  unfold endG
  split
  · exact advB_length _ _ _ _ _ (seg_length h (by assumption))
  · simp
abbrev pubE (seed : List UInt8) (leaf : Nat) : List UInt8 := catF (pubF seed leaf) 35
abbrev sigE (seed : List UInt8) (leaf : Nat) (d : List UInt8) : List UInt8 := catF (sigF seed leaf d) 35
abbrev endE (leaf : Nat) (d s : List UInt8) : List UInt8 := catF (endG leaf d s) 35
theorem pubE_length (seed : List UInt8) (leaf : Nat) : (pubE seed leaf).length = 560 := catF_length _ (pubF_length seed leaf) 35
theorem sigE_length (seed : List UInt8) (leaf : Nat) (d : List UInt8) : (sigE seed leaf d).length = 560 := catF_length _ (sigF_length seed leaf d) 35
theorem endE_length {s : List UInt8} (h : s.length = 560) (leaf : Nat) (d : List UInt8) : (endE leaf d s).length = 560 := catF_length _ (endG_length h leaf d) 35
theorem cf46 (args : Array Value) (w : World) : (callFunc 46 args).run Try.prog w = .ok (.enter 46 args) w := by kernel_rfl
theorem cf47 (args : Array Value) (w : World) : (callFunc 47 args).run Try.prog w = .ok (.enter 47 args) w := by kernel_rfl
theorem cf50 (args : Array Value) (w : World) : (callFunc 50 args).run Try.prog w = .ok (.enter 50 args) w := by kernel_rfl
theorem each_pub (seed : By 32) (leaf : Nat) (hl : leaf ≤ 65535) (gl gs : Nat) (w : World) (h : Blk w gl 3 #[.int .i64 (leaf : Int)] ∧ Blk w gs 31 (bs seed.1).toArray) :
    Calls Try.prog 45 #[.func (Fn.func 46) #[] #[.pointer (some ⟨gl, 0, none⟩), .pointer (some ⟨gs, 0, none⟩)]] w fun e w' => e = .returned (.agg (bs (pubE seed.1 leaf)).toArray) ∧ Fr0 w w' :=
  each_by _ _ cf46 (pubF seed.1 leaf) (pubF_length seed.1 leaf) (fun w => Blk w gl 3 #[.int .i64 (leaf : Int)] ∧ Blk w gs 31 (bs seed.1).toArray) (fun w w' hf h => ⟨h.1.fr hf (fun h => h), h.2.fr hf (fun h => h)⟩) (fun c hc w h => by
    have := pub_fn seed leaf c gl gs hl hc w h.1 h.2
    rw [show pubF seed.1 leaf c = advB leaf c 0 (15 - 0) (secB seed.1 leaf c) from rfl]
    exact this) w h
theorem each_sig (seed : By 32) (leaf : Nat) (hl : leaf ≤ 65535) (d : List UInt8) (gl gd gs : Nat) (w : World) (h : Blk w gl 3 #[.int .i64 (leaf : Int)] ∧ Blk w gd 27 (nis (splL d)) ∧ Blk w gs 31 (bs seed.1).toArray) :
    Calls Try.prog 45 #[.func (Fn.func 47) #[] #[.pointer (some ⟨gl, 0, none⟩), .pointer (some ⟨gd, 0, none⟩), .pointer (some ⟨gs, 0, none⟩)]] w fun e w' => e = .returned (.agg (bs (sigE seed.1 leaf d)).toArray) ∧ Fr0 w w' :=
  each_by _ _ cf47 (sigF seed.1 leaf d) (sigF_length seed.1 leaf d) (fun w => Blk w gl 3 #[.int .i64 (leaf : Int)] ∧ Blk w gd 27 (nis (splL d)) ∧ Blk w gs 31 (bs seed.1).toArray) (fun w w' hf h => ⟨h.1.fr hf (fun h => h), h.2.1.fr hf (fun h => h), h.2.2.fr hf (fun h => h)⟩) (fun c hc w h => by
    have := sign_fn seed d leaf c gl gd gs hl hc w h.1 h.2.1 h.2.2
    rw [show sigF seed.1 leaf d c = advB leaf c 0 (splN d c - 0) (secB seed.1 leaf c) from rfl]
    exact this) w h
theorem each_end (s : By 560) (leaf : Nat) (hl : leaf ≤ 65535) (d : List UInt8) (gl gd gs : Nat) (w : World) (h : Blk w gl 3 #[.int .i64 (leaf : Int)] ∧ Blk w gd 27 (nis (splL d)) ∧ Blk w gs 52 (bs s.1).toArray) :
    Calls Try.prog 45 #[.func (Fn.func 50) #[] #[.pointer (some ⟨gl, 0, none⟩), .pointer (some ⟨gd, 0, none⟩), .pointer (some ⟨gs, 0, none⟩)]] w fun e w' => e = .returned (.agg (bs (endE leaf d s.1)).toArray) ∧ Fr0 w w' :=
  each_by _ _ cf50 (endG leaf d s.1) (endG_length s.2 leaf d) (fun w => Blk w gl 3 #[.int .i64 (leaf : Int)] ∧ Blk w gd 27 (nis (splL d)) ∧ Blk w gs 52 (bs s.1).toArray) (fun w w' hf h => ⟨h.1.fr hf (fun h => h), h.2.1.fr hf (fun h => h), h.2.2.fr hf (fun h => h)⟩) (fun c hc w h => by
    have := ends_fn s d leaf c gl gd gs hl hc w h.1 h.2.1 h.2.2
    rw [show endG leaf d s.1 c = endF leaf d s.1 c by unfold endG; rw [if_pos hc]]
    exact this) w h

def TT28 : List (List Nat) := [[], [], [1], [0, 1, 2], [0, 1, 2, 3], [0, 1, 2, 3, 4]]
theorem z16_bd (w : World) : (bd 22 #[]).run Try.prog w = .ok (.agg z16) w := run_bd_v16 w
def zS : Array Value := (bs (List.replicate 560 0)).toArray
theorem zS_size : zS.size = 560 := by simp [zS]
theorem zS_one : one1 zS = true := all_one (bs_one' _)
theorem zS_bd (w : World) : (bd 52 #[]).run Try.prog w = .ok (.agg zS) w := by
  have h : zeroTail Try.prog 52 0 = zS := by kernel_rfl
  obtain ⟨i, hi⟩ : ∃ i, Try.prog.info? 52 = some i := by
    have := zi_bulletin_onetime_Signature
    cases hh : Try.prog.info? 52 with
    | none => rw [hh] at this; cases this
    | some i => exact ⟨i, rfl⟩
  obtain ⟨z, hz⟩ : ∃ z, i.zero = some z := by
    have := zi_bulletin_onetime_Signature
    rw [hi] at this
    exact Option.isSome_iff_exists.1 this
  obtain ⟨ie, he⟩ : ∃ ie, Try.prog.info? 22 = some ie := by
    have := info__16_uint8
    cases hh : Try.prog.info? 22 with
    | none => rw [hh] at this; cases this
    | some i => exact ⟨i, rfl⟩
  have hb := run_bd_arr w Try.underlying52 hi hz he #[] trivial (Nat.zero_le _)
  rw [hb]
  simp only [zeroTail, hi, hz] at h
  simp only [partsCells, Array.empty_append]
  rw [show (#[] : Array Value).size = 0 from rfl, h]
theorem zS_st (w : World) (b p : Nat) (h : okA w b p 560 = true) : (st 52 (.pointer (some ⟨b, p, none⟩)) (.agg zS)).run Try.prog w = .ok () (putW w b p zS) := run_st1_bulletin_onetime_Signature w b p zS zS_size zS_one h

set_option maxHeartbeats 2000000 in
theorem Public_bad (seed : By 32) (leaf : Int) (h : ¬ (0 ≤ leaf ∧ leaf ≤ 65535)) (w : World) :
    Calls Try.prog 28 #[.agg (bs seed.1).toArray, .int .i64 leaf] w fun e w' => e = .returned (.tuple #[.agg z16, .int .i64 2]) ∧ Fr0 w w' := by
  have hsz : (bs seed.1).toArray.size = 32 := by simp [seed.2]
  obtain ⟨V, HV⟩ := nm (bs seed.1).toArray
  rw [← HV.out] at hsz ⊢
  obtain ⟨Z, HZ⟩ := nm (z16)
  have hbd := z16_bd
  have hst := z16_st
  have hzs : Z.size = 16 := by rw [HZ.out]; rfl
  rw [← HZ.out] at hbd hst
  obtain ⟨w3, HW3⟩ := nm ((((w.alloc (.cells V 31)).alloc (.cells #[.int .i64 leaf] 3)).alloc (.cells z16 22)))
  have b0 : Blk w3 (w.heap.size) 31 V := by
    rw [HW3.out]
    have h := Blk.new w 31 V
    rw [show (w).heap.size = w.heap.size by simp] at h
    exact ((h.alloc _).alloc _)
  have b1 : Blk w3 (w.heap.size + 1) 3 #[.int .i64 leaf] := by
    rw [HW3.out]
    have h := Blk.new (w.alloc (.cells V 31)) 3 #[.int .i64 leaf]
    rw [show ((w.alloc (.cells V 31))).heap.size = w.heap.size + 1 by simp] at h
    exact (h.alloc _)
  have b2 : Blk w3 (w.heap.size + 2) 22 z16 := by
    rw [HW3.out]
    have h := Blk.new ((w.alloc (.cells V 31)).alloc (.cells #[.int .i64 leaf] 3)) 22 z16
    rw [show (((w.alloc (.cells V 31)).alloc (.cells #[.int .i64 leaf] 3))).heap.size = w.heap.size + 2 by simp] at h
    exact h
  have bf : Fr0 w w3 := by rw [HW3.out]; exact (((Fr.refl _ w).alloc _).alloc _).alloc _
  obtain ⟨hok, hput, hfin⟩ := fin_agg (n := 16) (cs := Z) b2 bf (by omega) (rfl) hzs
  have HP := Lib.hid (And.intro hput hfin)
  clear hput hfin bf b0 b1 b2
  go_enter Try.func28, Try.ntmps28
  go_wp2_with fail
  rw [← HW3.out]
  refine (within_any _ _ _).mono ?_
  rintro e w8 ⟨rfl, rfl⟩
  rw [decide_eq_false h]
  go_wp2_with fail
  refine bodyPost_agg2 (n := 16) (cs := Z) rfl Try.underlying22 rfl info__16_uint8 (by rfl) ?_ rfl ?_
  · exact HP.out.1
  · exact ⟨by rw [HZ.out]; rfl, HP.out.2⟩

set_option maxHeartbeats 2000000 in
theorem Public_ok (seed : By 32) (leaf : Nat) (hl : leaf ≤ 65535) (w : World) :
    Calls Try.prog 28 #[.agg (bs seed.1).toArray, .int .i64 (leaf : Int)] w fun e w' => e = .returned (.tuple #[.agg (bs (compB leaf (pubE seed.1 leaf))).toArray, .int .i64 0]) ∧ Fr0 w w' := by
  have hsz : (bs seed.1).toArray.size = 32 := by simp [seed.2]
  obtain ⟨V, HV⟩ := nm (bs seed.1).toArray
  rw [← HV.out] at hsz ⊢
  have hst := a16_st ⟨compB leaf (pubE seed.1 leaf), compB_length _ _⟩
  change ∀ (w : World) (b' p : Nat), okA w b' p 16 = true → (st 22 (.pointer (some ⟨b', p, none⟩)) (.agg (bs (compB leaf (pubE seed.1 leaf))).toArray)).run Try.prog w = .ok () (putW w b' p (bs (compB leaf (pubE seed.1 leaf))).toArray) at hst
  have hxs : (bs (compB leaf (pubE seed.1 leaf))).toArray.size = 16 := by simp [compB_length]
  obtain ⟨X, HX⟩ := nm (bs (compB leaf (pubE seed.1 leaf))).toArray
  rw [← HX.out] at hst hxs
  obtain ⟨E, HE⟩ := nm (bs (pubE seed.1 leaf)).toArray
  obtain ⟨w3, HW3⟩ := nm ((((w.alloc (.cells V 31)).alloc (.cells #[.int .i64 (leaf : Int)] 3)).alloc (.cells z16 22)))
  have b0 : Blk w3 (w.heap.size) 31 V := by
    rw [HW3.out]
    have h := Blk.new w 31 V
    rw [show (w).heap.size = w.heap.size by simp] at h
    exact ((h.alloc _).alloc _)
  have b1 : Blk w3 (w.heap.size + 1) 3 #[.int .i64 (leaf : Int)] := by
    rw [HW3.out]
    have h := Blk.new (w.alloc (.cells V 31)) 3 #[.int .i64 (leaf : Int)]
    rw [show ((w.alloc (.cells V 31))).heap.size = w.heap.size + 1 by simp] at h
    exact (h.alloc _)
  have b2 : Blk w3 (w.heap.size + 2) 22 z16 := by
    rw [HW3.out]
    have h := Blk.new ((w.alloc (.cells V 31)).alloc (.cells #[.int .i64 (leaf : Int)] 3)) 22 z16
    rw [show (((w.alloc (.cells V 31)).alloc (.cells #[.int .i64 (leaf : Int)] 3))).heap.size = w.heap.size + 2 by simp] at h
    exact h
  have bf : Fr0 w w3 := by rw [HW3.out]; exact (((Fr.refl _ w).alloc _).alloc _).alloc _
  have H3 := Lib.hid (And.intro b0 (And.intro b1 (And.intro b2 bf)))
  clear b0 b1 b2 bf
  go_enter Try.func28, Try.ntmps28
  go_wp2_with fail
  rw [← HW3.out]
  refine (within_any _ _ _).mono ?_
  rintro e w8 ⟨rfl, rfl⟩
  rw [decide_eq_true (by omega)]
  go_wp2_with fail
  refine reg_start (by kernel_rfl) ?_
  refine reg_uno (D := [some 10, some 11, some 12, some 13, none, some 5]) (J := [0, 1, 2]) 3 [] [PV (.int .i64 (leaf : Int)), PV (.func (Fn.func 46) #[] #[.pointer (some ⟨w.heap.size + 1, 0, none⟩), .pointer (some ⟨w.heap.size, 0, none⟩)]), PV (.agg E)] TT28 (by kernel_rfl) (by kernel_rfl) (by kernel_rfl) rfl rfl rfl
    (stab_cons (PV.stab _) (stab_cons (PV.stab _) (stab_cons (PV.stab _) stab_nil)))
    (fun v => usteps_cons ?_ (usteps_cons ?_ (usteps_cons ?_ (usteps_nil)))) (fun v wx hx hP hA => ?_)
  · refine ustep_mk (D := [some 10, some 11, some 12, some 13, none, some 5]) (Ti := []) rfl rfl rfl rfl (fun wx hx hP => ?_)   -- 0: load 3 (tmp 3)
    have hcl : wx.cell? ⟨w.heap.size + 1, 0, none⟩ = some (.int .i64 (leaf : Int)) := (H3.out.2.1.fr ((Fr.drew (Fr.refl _ _)).trans hx) (fun h => h)).cell 0
    clear hP
    simp only [putD, List.getD_cons_zero, List.getD_cons_succ]
    go_wp2_with fail
    exact Q1.mk rfl _ rfl ⟨Fr.refl _ _, rfl, frok_no rfl⟩
  · refine ustep_mk (D := [some 10, some 11, some 12, some 13, none, some 5]) (Ti := []) rfl rfl rfl rfl (fun wx hx hP => ?_)   -- 1: makeFunc (Fn.func 46) #[] #[tmp 3, tmp 2]
    clear hP
    simp only [putD, List.getD_cons_zero, List.getD_cons_succ]
    go_wp2_with fail
    exact Q1.mk rfl _ rfl ⟨Fr.refl _ _, rfl, frok_no rfl⟩
  · refine ustep_mk (D := [some 10, some 11, some 12, some 13, none, some 5]) (Ti := [1]) rfl rfl rfl rfl (fun wx hx hP => ?_)   -- 2: call { callee := Callee.value (func 45), args := #
    have h1 : v 1 = .func (Fn.func 46) #[] #[.pointer (some ⟨w.heap.size + 1, 0, none⟩), .pointer (some ⟨w.heap.size, 0, none⟩)] := hP.1
    clear hP
    simp only [putD, List.getD_cons_zero, List.getD_cons_succ]
    go_wp2_with fail
    refine (each_pub seed leaf hl _ _ _ ⟨H3.out.2.1.fr ((Fr.drew (Fr.refl _ _)).trans hx) (fun h => h), HV.out ▸ H3.out.1.fr ((Fr.drew (Fr.refl _ _)).trans hx) (fun h => h)⟩).mono ?_
    rintro e wy ⟨rfl, hfy⟩
    rw [← HE.out]
    go_wp2_with fail
    exact Q1.mk rfl _ rfl ⟨hfy, rfl, frok_no rfl⟩
  have h0 : v 0 = .int .i64 (leaf : Int) := hP.1
  have h1 : v 1 = .func (Fn.func 46) #[] #[.pointer (some ⟨w.heap.size + 1, 0, none⟩), .pointer (some ⟨w.heap.size, 0, none⟩)] := hP.2.1
  have h2 : v 2 = .agg E := hP.2.2.1
  have HR := Lib.hid (H3.out.2.2.1.fr ((Fr.drew (Fr.refl _ _)).trans hx) (fun h => h))
  have HF := Lib.hid (H3.out.2.2.2.trans ((Fr.drew (Fr.refl _ _)).trans hx))
  clear hx hA
  clear hP
  simp only [putD, List.getD_cons_zero, List.getD_cons_succ]
  refine reg_seq' 14 3 TT28 (by kernel_rfl) (by kernel_rfl) ?_
  simp only [List.drop_succ_cons, List.drop_zero, List.take_succ_cons, List.take_zero]
  go_wp2_with fail
  rw [HE.out]
  refine (compress_any leaf hl ⟨pubE seed.1 leaf, pubE_length _ _⟩ _).mono ?_
  rintro e w9 ⟨rfl, hf9⟩
  rw [← HX.out]
  obtain ⟨hok, hput, hfin⟩ := fin_agg (n := 16) (cs := X) (HR.out.fr hf9 (fun h => h)) (HF.out.trans hf9) (by omega) rfl hxs
  have HP := Lib.hid (And.intro hput hfin)
  clear hf9 hput hfin
  go_wp2_with fail
  refine QR.mk ?_
  refine reg_end (by decide) ?_
  go_wp2_with fail
  refine bodyPost_agg2 (n := 16) (cs := X) rfl Try.underlying22 rfl info__16_uint8 (by rfl) ?_ rfl ?_
  · exact HP.out.1
  · exact ⟨by rw [HX.out]; rfl, HP.out.2⟩

set_option maxHeartbeats 2000000 in
theorem Compress_bad (s : By 560) (leaf : Int) (h : ¬ (0 ≤ leaf ∧ leaf ≤ 65535)) (w : World) :
    Calls Try.prog 29 #[.int .i64 leaf, .agg (bs s.1).toArray] w fun e w' => e = .returned (.tuple #[.agg z16, .int .i64 2]) ∧ Fr0 w w' := by
  have hsg : (bs s.1).toArray.size = 560 := by simp [s.2]
  obtain ⟨G, HG⟩ := nm (bs s.1).toArray
  rw [← HG.out] at hsg ⊢
  obtain ⟨Z, HZ⟩ := nm (z16)
  have hbd := z16_bd
  have hst := z16_st
  have hzs : Z.size = 16 := by rw [HZ.out]; rfl
  rw [← HZ.out] at hbd hst
  obtain ⟨w3, HW3⟩ := nm (((w.alloc (.cells G 51)).alloc (.cells z16 22)))
  have b0 : Blk w3 (w.heap.size) 51 G := by
    rw [HW3.out]
    have h := Blk.new w 51 G
    rw [show (w).heap.size = w.heap.size by simp] at h
    exact (h.alloc _)
  have b1 : Blk w3 (w.heap.size + 1) 22 z16 := by
    rw [HW3.out]
    have h := Blk.new (w.alloc (.cells G 51)) 22 z16
    rw [show ((w.alloc (.cells G 51))).heap.size = w.heap.size + 1 by simp] at h
    exact h
  have bf : Fr0 w w3 := by rw [HW3.out]; exact ((Fr.refl _ w).alloc _).alloc _
  obtain ⟨hok, hput, hfin⟩ := fin_agg (n := 16) (cs := Z) b1 bf (by omega) (rfl) hzs
  have HP := Lib.hid (And.intro hput hfin)
  clear hput hfin bf b0 b1
  go_enter Try.func29, Try.ntmps29
  go_wp2_with fail
  rw [← HW3.out]
  refine (within_any _ _ _).mono ?_
  rintro e w8 ⟨rfl, rfl⟩
  rw [decide_eq_false h]
  go_wp2_with fail
  refine bodyPost_agg2 (n := 16) (cs := Z) rfl Try.underlying22 rfl info__16_uint8 (by rfl) ?_ rfl ?_
  · exact HP.out.1
  · exact ⟨by rw [HZ.out]; rfl, HP.out.2⟩

set_option maxHeartbeats 2000000 in
theorem Compress_ok (s : By 560) (leaf : Nat) (hl : leaf ≤ 65535) (w : World) :
    Calls Try.prog 29 #[.int .i64 (leaf : Int), .agg (bs s.1).toArray] w fun e w' => e = .returned (.tuple #[.agg (bs (compB leaf s.1)).toArray, .int .i64 0]) ∧ Fr0 w w' := by
  have hsg : (bs s.1).toArray.size = 560 := by simp [s.2]
  obtain ⟨G, HG⟩ := nm (bs s.1).toArray
  rw [← HG.out] at hsg ⊢
  have hst := a16_st ⟨compB leaf s.1, compB_length _ _⟩
  change ∀ (w : World) (b' p : Nat), okA w b' p 16 = true → (st 22 (.pointer (some ⟨b', p, none⟩)) (.agg (bs (compB leaf s.1)).toArray)).run Try.prog w = .ok () (putW w b' p (bs (compB leaf s.1)).toArray) at hst
  have hxs : (bs (compB leaf s.1)).toArray.size = 16 := by simp [compB_length]
  obtain ⟨X, HX⟩ := nm (bs (compB leaf s.1)).toArray
  rw [← HX.out] at hst hxs
  obtain ⟨w3, HW3⟩ := nm (((w.alloc (.cells G 51)).alloc (.cells z16 22)))
  have b0 : Blk w3 (w.heap.size) 51 G := by
    rw [HW3.out]
    have h := Blk.new w 51 G
    rw [show (w).heap.size = w.heap.size by simp] at h
    exact (h.alloc _)
  have b1 : Blk w3 (w.heap.size + 1) 22 z16 := by
    rw [HW3.out]
    have h := Blk.new (w.alloc (.cells G 51)) 22 z16
    rw [show ((w.alloc (.cells G 51))).heap.size = w.heap.size + 1 by simp] at h
    exact h
  have bf : Fr0 w w3 := by rw [HW3.out]; exact ((Fr.refl _ w).alloc _).alloc _
  have hld := b0.all hsg
  have H3 := Lib.hid (And.intro b1 bf)
  clear b0 b1 bf
  go_enter Try.func29, Try.ntmps29
  go_wp2_with fail
  rw [← HW3.out]
  refine (within_any _ _ _).mono ?_
  rintro e w8 ⟨rfl, rfl⟩
  rw [decide_eq_true (by omega)]
  go_wp2_with fail
  rw [HG.out]
  refine (compress_any leaf hl s _).mono ?_
  rintro e w9 ⟨rfl, hf9⟩
  rw [← HX.out]
  obtain ⟨hok, hput, hfin⟩ := fin_agg (n := 16) (cs := X) (H3.out.1.fr hf9 (fun h => h)) (H3.out.2.trans hf9) (by omega) rfl hxs
  have HP := Lib.hid (And.intro hput hfin)
  clear hf9 hput hfin hld
  go_wp2_with fail
  refine bodyPost_agg2 (n := 16) (cs := X) rfl Try.underlying22 rfl info__16_uint8 (by rfl) ?_ rfl ?_
  · exact HP.out.1
  · exact ⟨by rw [HX.out]; rfl, HP.out.2⟩

set_option maxHeartbeats 2000000 in
theorem ends_any (s : By 560) (leaf : Nat) (hl : leaf ≤ 65535) (d : By 16) (w : World) :
    Calls Try.prog 44 #[.agg (bs s.1).toArray, .int .i64 (leaf : Int), .agg (bs d.1).toArray] w fun e w' => e = .returned (.agg (bs (endE leaf d.1 s.1)).toArray) ∧ Fr0 w w' := by
  have hsg : (bs s.1).toArray.size = 560 := by simp [s.2]
  obtain ⟨G, HG⟩ := nm (bs s.1).toArray
  rw [← HG.out] at hsg ⊢
  have hsd : (bs d.1).toArray.size = 16 := by simp [d.2]
  obtain ⟨D, HD⟩ := nm (bs d.1).toArray
  rw [← HD.out] at hsd ⊢
  have hes : (bs (endE leaf d.1 s.1)).toArray.size = 560 := by simp [endE_length s.2]
  have heo : one1 (bs (endE leaf d.1 s.1)).toArray = true := all_one (bs_one' _)
  obtain ⟨E, HE⟩ := nm (bs (endE leaf d.1 s.1)).toArray
  rw [← HE.out] at hes heo
  have hz560 := zt__35__16_uint8
  obtain ⟨w3, HW3⟩ := nm (((((w.alloc (.cells G 52)).alloc (.cells #[.int .i64 (leaf : Int)] 3)).alloc (.cells D 22)).alloc (.cells (zeroTail Try.prog 51 0) 51)))
  have b0 : Blk w3 (w.heap.size) 52 G := by
    rw [HW3.out]
    have h := Blk.new w 52 G
    rw [show (w).heap.size = w.heap.size by simp] at h
    exact (((h.alloc _).alloc _).alloc _)
  have b1 : Blk w3 (w.heap.size + 1) 3 #[.int .i64 (leaf : Int)] := by
    rw [HW3.out]
    have h := Blk.new (w.alloc (.cells G 52)) 3 #[.int .i64 (leaf : Int)]
    rw [show ((w.alloc (.cells G 52))).heap.size = w.heap.size + 1 by simp] at h
    exact ((h.alloc _).alloc _)
  have b2 : Blk w3 (w.heap.size + 2) 22 D := by
    rw [HW3.out]
    have h := Blk.new ((w.alloc (.cells G 52)).alloc (.cells #[.int .i64 (leaf : Int)] 3)) 22 D
    rw [show (((w.alloc (.cells G 52)).alloc (.cells #[.int .i64 (leaf : Int)] 3))).heap.size = w.heap.size + 2 by simp] at h
    exact (h.alloc _)
  have b3 : Blk w3 (w.heap.size + 3) 51 (zeroTail Try.prog 51 0) := by
    rw [HW3.out]
    have h := Blk.new (((w.alloc (.cells G 52)).alloc (.cells #[.int .i64 (leaf : Int)] 3)).alloc (.cells D 22)) 51 (zeroTail Try.prog 51 0)
    rw [show ((((w.alloc (.cells G 52)).alloc (.cells #[.int .i64 (leaf : Int)] 3)).alloc (.cells D 22))).heap.size = w.heap.size + 3 by simp] at h
    exact h
  have bf : Fr0 w w3 := by rw [HW3.out]; exact ((((Fr.refl _ w).alloc _).alloc _).alloc _).alloc _
  have hld := b2.all hsd
  rw [HW3.out] at hld
  have H3 := Lib.hid (And.intro b0 (And.intro b1 b3))
  have H3f := Lib.hid bf
  clear b0 b1 b2 b3 bf
  go_enter Try.func44, Try.ntmps44
  go_wp2_with fail
  rw [← HW3.out]
  clear hld
  rw [HD.out]
  refine (split_any d _).mono ?_
  rintro e w4 ⟨rfl, hf4⟩
  rw [← HD.out]
  have hns := nis_one (splL d.1)
  have hnz : (nis (splL d.1)).size = 35 := by simp
  have hz35 := zt__35_int
  obtain ⟨N, HN⟩ := nm (nis (splL d.1))
  rw [← HN.out] at hns hnz ⊢
  have H4 := Lib.hid (And.intro (H3.out.1.fr hf4 (fun h => h)) (And.intro (H3.out.2.1.fr hf4 (fun h => h)) (H3.out.2.2.fr hf4 (fun h => h))))
  have H4f := Lib.hid (H3f.out.trans hf4)
  obtain ⟨w5, HW5⟩ := nm (w4.alloc (.cells N 27))
  have n5 : Blk w5 w4.heap.size 27 N := by rw [HW5.out]; exact Blk.new _ _ _
  have HN5 := Lib.hid n5
  have H5f := Lib.hid (show Fr0 w w5 from by rw [HW5.out]; exact H4f.out.alloc _)
  clear hf4 n5
  go_wp2_with fail
  rw [← HW5.out]
  refine (each_end s leaf hl d.1 _ _ _ _ ⟨by rw [HW5.out]; exact H4.out.2.1.alloc _, by rw [← HN.out]; exact HN5.out, by rw [HW5.out, ← HG.out]; exact H4.out.1.alloc _⟩).mono ?_
  rintro e w9 ⟨rfl, hf9⟩
  rw [← HE.out]
  obtain ⟨hok, hput, hfin⟩ := fin_agg (n := 560) (cs := E) ((show Blk w5 _ _ _ from by rw [HW5.out]; exact H4.out.2.2.alloc _).fr hf9 (fun h => h)) (H5f.out.trans hf9) (by omega) hz560 hes
  have HP := Lib.hid (And.intro hput hfin)
  clear hf9 hput hfin
  go_wp2_with fail
  refine bodyPost_agg (n := 560) (cs := E) rfl Try.underlying51 rfl info__35__16_uint8 (by rfl) ?_ rfl ?_
  · exact HP.out.1
  · exact ⟨by rw [HE.out], HP.out.2⟩

set_option maxHeartbeats 2000000 in
theorem Recover_bad (d : By 16) (s : By 560) (leaf : Int) (h : ¬ (0 ≤ leaf ∧ leaf ≤ 65535)) (w : World) :
    Calls Try.prog 23 #[.int .i64 leaf, .agg (bs d.1).toArray, .agg (bs s.1).toArray] w fun e w' => e = .returned (.tuple #[.agg z16, .int .i64 2]) ∧ Fr0 w w' := by
  have hsd : (bs d.1).toArray.size = 16 := by simp [d.2]
  obtain ⟨D, HD⟩ := nm (bs d.1).toArray
  rw [← HD.out] at hsd ⊢
  have hsg : (bs s.1).toArray.size = 560 := by simp [s.2]
  obtain ⟨G, HG⟩ := nm (bs s.1).toArray
  rw [← HG.out] at hsg ⊢
  obtain ⟨Z, HZ⟩ := nm (z16)
  have hbd := z16_bd
  have hst := z16_st
  have hzs : Z.size = 16 := by rw [HZ.out]; rfl
  rw [← HZ.out] at hbd hst
  obtain ⟨w3, HW3⟩ := nm ((((w.alloc (.cells D 22)).alloc (.cells G 52)).alloc (.cells z16 22)))
  have b0 : Blk w3 (w.heap.size) 22 D := by
    rw [HW3.out]
    have h := Blk.new w 22 D
    rw [show (w).heap.size = w.heap.size by simp] at h
    exact ((h.alloc _).alloc _)
  have b1 : Blk w3 (w.heap.size + 1) 52 G := by
    rw [HW3.out]
    have h := Blk.new (w.alloc (.cells D 22)) 52 G
    rw [show ((w.alloc (.cells D 22))).heap.size = w.heap.size + 1 by simp] at h
    exact (h.alloc _)
  have b2 : Blk w3 (w.heap.size + 2) 22 z16 := by
    rw [HW3.out]
    have h := Blk.new ((w.alloc (.cells D 22)).alloc (.cells G 52)) 22 z16
    rw [show (((w.alloc (.cells D 22)).alloc (.cells G 52))).heap.size = w.heap.size + 2 by simp] at h
    exact h
  have bf : Fr0 w w3 := by rw [HW3.out]; exact (((Fr.refl _ w).alloc _).alloc _).alloc _
  obtain ⟨hok, hput, hfin⟩ := fin_agg (n := 16) (cs := Z) b2 bf (by omega) (rfl) hzs
  have HP := Lib.hid (And.intro hput hfin)
  clear hput hfin bf b0 b1 b2
  go_enter Try.func23, Try.ntmps23
  go_wp2_with fail
  rw [← HW3.out]
  refine (within_any _ _ _).mono ?_
  rintro e w8 ⟨rfl, rfl⟩
  rw [decide_eq_false h]
  go_wp2_with fail
  refine bodyPost_agg2 (n := 16) (cs := Z) rfl Try.underlying22 rfl info__16_uint8 (by rfl) ?_ rfl ?_
  · exact HP.out.1
  · exact ⟨by rw [HZ.out]; rfl, HP.out.2⟩

set_option maxHeartbeats 2000000 in
theorem Recover_ok (d : By 16) (s : By 560) (leaf : Nat) (hl : leaf ≤ 65535) (w : World) :
    Calls Try.prog 23 #[.int .i64 (leaf : Int), .agg (bs d.1).toArray, .agg (bs s.1).toArray] w fun e w' => e = .returned (.tuple #[.agg (bs (compB leaf (endE leaf d.1 s.1))).toArray, .int .i64 0]) ∧ Fr0 w w' := by
  have hsd : (bs d.1).toArray.size = 16 := by simp [d.2]
  obtain ⟨D, HD⟩ := nm (bs d.1).toArray
  rw [← HD.out] at hsd ⊢
  have hsg : (bs s.1).toArray.size = 560 := by simp [s.2]
  obtain ⟨G, HG⟩ := nm (bs s.1).toArray
  rw [← HG.out] at hsg ⊢
  have hst := a16_st ⟨compB leaf (endE leaf d.1 s.1), compB_length _ _⟩
  change ∀ (w : World) (b' p : Nat), okA w b' p 16 = true → (st 22 (.pointer (some ⟨b', p, none⟩)) (.agg (bs (compB leaf (endE leaf d.1 s.1))).toArray)).run Try.prog w = .ok () (putW w b' p (bs (compB leaf (endE leaf d.1 s.1))).toArray) at hst
  have hxs : (bs (compB leaf (endE leaf d.1 s.1))).toArray.size = 16 := by simp [compB_length]
  obtain ⟨X, HX⟩ := nm (bs (compB leaf (endE leaf d.1 s.1))).toArray
  rw [← HX.out] at hst hxs
  obtain ⟨E, HE⟩ := nm (bs (endE leaf d.1 s.1)).toArray
  obtain ⟨w3, HW3⟩ := nm ((((w.alloc (.cells D 22)).alloc (.cells G 52)).alloc (.cells z16 22)))
  have b0 : Blk w3 (w.heap.size) 22 D := by
    rw [HW3.out]
    have h := Blk.new w 22 D
    rw [show (w).heap.size = w.heap.size by simp] at h
    exact ((h.alloc _).alloc _)
  have b1 : Blk w3 (w.heap.size + 1) 52 G := by
    rw [HW3.out]
    have h := Blk.new (w.alloc (.cells D 22)) 52 G
    rw [show ((w.alloc (.cells D 22))).heap.size = w.heap.size + 1 by simp] at h
    exact (h.alloc _)
  have b2 : Blk w3 (w.heap.size + 2) 22 z16 := by
    rw [HW3.out]
    have h := Blk.new ((w.alloc (.cells D 22)).alloc (.cells G 52)) 22 z16
    rw [show (((w.alloc (.cells D 22)).alloc (.cells G 52))).heap.size = w.heap.size + 2 by simp] at h
    exact h
  have bf : Fr0 w w3 := by rw [HW3.out]; exact (((Fr.refl _ w).alloc _).alloc _).alloc _
  have hld0 := b0.all hsd
  have hld1 := b1.all hsg
  have H3 := Lib.hid (And.intro b2 bf)
  clear b0 b1 b2 bf
  go_enter Try.func23, Try.ntmps23
  go_wp2_with fail
  rw [← HW3.out]
  refine (within_any _ _ _).mono ?_
  rintro e w8 ⟨rfl, rfl⟩
  rw [decide_eq_true (by omega)]
  go_wp2_with fail
  rw [HG.out, HD.out]
  refine (ends_any s leaf hl d _).mono ?_
  rintro e w4 ⟨rfl, hf4⟩
  rw [← HE.out, ← HG.out, ← HD.out]
  have H4 := Lib.hid (And.intro (H3.out.1.fr hf4 (fun h => h)) (H3.out.2.trans hf4))
  clear hf4 hld0 hld1
  go_wp2_with fail
  rw [HE.out]
  refine (compress_any leaf hl ⟨endE leaf d.1 s.1, endE_length s.2 _ _⟩ _).mono ?_
  rintro e w9 ⟨rfl, hf9⟩
  rw [← HX.out, ← HE.out]
  obtain ⟨hok, hput, hfin⟩ := fin_agg (n := 16) (cs := X) (H4.out.1.fr hf9 (fun h => h)) (H4.out.2.trans hf9) (by omega) rfl hxs
  have HP := Lib.hid (And.intro hput hfin)
  clear hf9 hput hfin
  go_wp2_with fail
  refine bodyPost_agg2 (n := 16) (cs := X) rfl Try.underlying22 rfl info__16_uint8 (by rfl) ?_ rfl ?_
  · exact HP.out.1
  · exact ⟨by rw [HX.out]; rfl, HP.out.2⟩

set_option maxHeartbeats 2000000 in
theorem Sign_bad (seed : By 32) (d : By 16) (leaf : Int) (h : ¬ (0 ≤ leaf ∧ leaf ≤ 65535)) (w : World) :
    Calls Try.prog 32 #[.agg (bs seed.1).toArray, .int .i64 leaf, .agg (bs d.1).toArray] w fun e w' => e = .returned (.tuple #[.agg zS, .int .i64 2]) ∧ Fr0 w w' := by
  have hsz : (bs seed.1).toArray.size = 32 := by simp [seed.2]
  obtain ⟨V, HV⟩ := nm (bs seed.1).toArray
  rw [← HV.out] at hsz ⊢
  have hsd : (bs d.1).toArray.size = 16 := by simp [d.2]
  obtain ⟨D, HD⟩ := nm (bs d.1).toArray
  rw [← HD.out] at hsd ⊢
  obtain ⟨Z, HZ⟩ := nm (zS)
  have hbd := zS_bd
  have hst := zS_st
  have hzs : Z.size = 560 := by rw [HZ.out]; exact zS_size
  rw [← HZ.out] at hbd hst
  obtain ⟨w3, HW3⟩ := nm (((((w.alloc (.cells V 31)).alloc (.cells #[.int .i64 leaf] 3)).alloc (.cells D 22)).alloc (.cells (zeroTail Try.prog 52 0) 52)))
  have b0 : Blk w3 (w.heap.size) 31 V := by
    rw [HW3.out]
    have h := Blk.new w 31 V
    rw [show (w).heap.size = w.heap.size by simp] at h
    exact (((h.alloc _).alloc _).alloc _)
  have b1 : Blk w3 (w.heap.size + 1) 3 #[.int .i64 leaf] := by
    rw [HW3.out]
    have h := Blk.new (w.alloc (.cells V 31)) 3 #[.int .i64 leaf]
    rw [show ((w.alloc (.cells V 31))).heap.size = w.heap.size + 1 by simp] at h
    exact ((h.alloc _).alloc _)
  have b2 : Blk w3 (w.heap.size + 2) 22 D := by
    rw [HW3.out]
    have h := Blk.new ((w.alloc (.cells V 31)).alloc (.cells #[.int .i64 leaf] 3)) 22 D
    rw [show (((w.alloc (.cells V 31)).alloc (.cells #[.int .i64 leaf] 3))).heap.size = w.heap.size + 2 by simp] at h
    exact (h.alloc _)
  have b3 : Blk w3 (w.heap.size + 3) 52 (zeroTail Try.prog 52 0) := by
    rw [HW3.out]
    have h := Blk.new (((w.alloc (.cells V 31)).alloc (.cells #[.int .i64 leaf] 3)).alloc (.cells D 22)) 52 (zeroTail Try.prog 52 0)
    rw [show ((((w.alloc (.cells V 31)).alloc (.cells #[.int .i64 leaf] 3)).alloc (.cells D 22))).heap.size = w.heap.size + 3 by simp] at h
    exact h
  have bf : Fr0 w w3 := by rw [HW3.out]; exact ((((Fr.refl _ w).alloc _).alloc _).alloc _).alloc _
  obtain ⟨hok, hput, hfin⟩ := fin_agg (n := 560) (cs := Z) b3 bf (by omega) (zt_bulletin_onetime_Signature) hzs
  have HP := Lib.hid (And.intro hput hfin)
  clear hput hfin bf b0 b1 b2 b3
  go_enter Try.func32, Try.ntmps32
  go_wp2_with fail
  rw [← HW3.out]
  refine (within_any _ _ _).mono ?_
  rintro e w8 ⟨rfl, rfl⟩
  rw [decide_eq_false h]
  go_wp2_with fail
  refine bodyPost_agg2 (n := 560) (cs := Z) rfl Try.underlying52 rfl info_bulletin_onetime_Signature (by rfl) ?_ rfl ?_
  · exact HP.out.1
  · exact ⟨by rw [HZ.out]; rfl, HP.out.2⟩

set_option maxHeartbeats 2000000 in
theorem Sign_ok (seed : By 32) (d : By 16) (leaf : Nat) (hl : leaf ≤ 65535) (w : World) :
    Calls Try.prog 32 #[.agg (bs seed.1).toArray, .int .i64 (leaf : Int), .agg (bs d.1).toArray] w fun e w' => e = .returned (.tuple #[.agg (bs (sigE seed.1 leaf d.1)).toArray, .int .i64 0]) ∧ Fr0 w w' := by
  have hsz : (bs seed.1).toArray.size = 32 := by simp [seed.2]
  obtain ⟨V, HV⟩ := nm (bs seed.1).toArray
  rw [← HV.out] at hsz ⊢
  have hsd : (bs d.1).toArray.size = 16 := by simp [d.2]
  obtain ⟨D, HD⟩ := nm (bs d.1).toArray
  rw [← HD.out] at hsd ⊢
  have hes : (bs (sigE seed.1 leaf d.1)).toArray.size = 560 := by simp [sigE_length]
  have heo : one1 (bs (sigE seed.1 leaf d.1)).toArray = true := all_one (bs_one' _)
  obtain ⟨E, HE⟩ := nm (bs (sigE seed.1 leaf d.1)).toArray
  rw [← HE.out] at hes heo
  have hz560 := zt_bulletin_onetime_Signature
  obtain ⟨w3, HW3⟩ := nm (((((w.alloc (.cells V 31)).alloc (.cells #[.int .i64 (leaf : Int)] 3)).alloc (.cells D 22)).alloc (.cells (zeroTail Try.prog 52 0) 52)))
  have b0 : Blk w3 (w.heap.size) 31 V := by
    rw [HW3.out]
    have h := Blk.new w 31 V
    rw [show (w).heap.size = w.heap.size by simp] at h
    exact (((h.alloc _).alloc _).alloc _)
  have b1 : Blk w3 (w.heap.size + 1) 3 #[.int .i64 (leaf : Int)] := by
    rw [HW3.out]
    have h := Blk.new (w.alloc (.cells V 31)) 3 #[.int .i64 (leaf : Int)]
    rw [show ((w.alloc (.cells V 31))).heap.size = w.heap.size + 1 by simp] at h
    exact ((h.alloc _).alloc _)
  have b2 : Blk w3 (w.heap.size + 2) 22 D := by
    rw [HW3.out]
    have h := Blk.new ((w.alloc (.cells V 31)).alloc (.cells #[.int .i64 (leaf : Int)] 3)) 22 D
    rw [show (((w.alloc (.cells V 31)).alloc (.cells #[.int .i64 (leaf : Int)] 3))).heap.size = w.heap.size + 2 by simp] at h
    exact (h.alloc _)
  have b3 : Blk w3 (w.heap.size + 3) 52 (zeroTail Try.prog 52 0) := by
    rw [HW3.out]
    have h := Blk.new (((w.alloc (.cells V 31)).alloc (.cells #[.int .i64 (leaf : Int)] 3)).alloc (.cells D 22)) 52 (zeroTail Try.prog 52 0)
    rw [show ((((w.alloc (.cells V 31)).alloc (.cells #[.int .i64 (leaf : Int)] 3)).alloc (.cells D 22))).heap.size = w.heap.size + 3 by simp] at h
    exact h
  have bf : Fr0 w w3 := by rw [HW3.out]; exact ((((Fr.refl _ w).alloc _).alloc _).alloc _).alloc _
  have hld := b2.all hsd
  have hcl : w3.cell? ⟨w.heap.size + 1, 0, none⟩ = some (.int .i64 (leaf : Int)) := b1.cell 0
  have H3 := Lib.hid (And.intro b0 (And.intro b1 b3))
  have H3f := Lib.hid bf
  clear b0 b1 b2 b3 bf
  go_enter Try.func32, Try.ntmps32
  go_wp2_with fail
  rw [← HW3.out]
  refine (within_any _ _ _).mono ?_
  rintro e w8 ⟨rfl, rfl⟩
  rw [decide_eq_true (by omega)]
  go_wp2_with fail
  clear hld hcl
  rw [HD.out]
  refine (split_any d _).mono ?_
  rintro e w4 ⟨rfl, hf4⟩
  rw [← HD.out]
  have hns := nis_one (splL d.1)
  have hnz : (nis (splL d.1)).size = 35 := by simp
  have hz35 := zt__35_int
  obtain ⟨N, HN⟩ := nm (nis (splL d.1))
  rw [← HN.out] at hns hnz ⊢
  have H4 := Lib.hid (And.intro (H3.out.1.fr hf4 (fun h => h)) (And.intro (H3.out.2.1.fr hf4 (fun h => h)) (H3.out.2.2.fr hf4 (fun h => h))))
  have H4f := Lib.hid (H3f.out.trans hf4)
  obtain ⟨w5, HW5⟩ := nm (w4.alloc (.cells N 27))
  have n5 : Blk w5 w4.heap.size 27 N := by rw [HW5.out]; exact Blk.new _ _ _
  have HN5 := Lib.hid n5
  have H5f := Lib.hid (show Fr0 w w5 from by rw [HW5.out]; exact H4f.out.alloc _)
  clear hf4 n5
  go_wp2_with fail
  rw [← HW5.out]
  refine (each_sig seed leaf hl d.1 _ _ _ _ ⟨by rw [HW5.out]; exact H4.out.2.1.alloc _, by rw [← HN.out]; exact HN5.out, by rw [HW5.out, ← HV.out]; exact H4.out.1.alloc _⟩).mono ?_
  rintro e w9 ⟨rfl, hf9⟩
  rw [← HE.out]
  obtain ⟨hok, hput, hfin⟩ := fin_agg (n := 560) (cs := E) ((show Blk w5 _ _ _ from by rw [HW5.out]; exact H4.out.2.2.alloc _).fr hf9 (fun h => h)) (H5f.out.trans hf9) (by omega) hz560 hes
  have HP := Lib.hid (And.intro hput hfin)
  clear hf9 hput hfin
  go_wp2_with fail
  refine bodyPost_agg2 (n := 560) (cs := E) rfl Try.underlying52 rfl info_bulletin_onetime_Signature (by rfl) ?_ rfl ?_
  · exact HP.out.1
  · exact ⟨by rw [HE.out]; rfl, HP.out.2⟩

end Go.Proofs.Ytjdbfedkadoklaa
