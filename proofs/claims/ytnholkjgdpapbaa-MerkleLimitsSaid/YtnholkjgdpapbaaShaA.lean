/- SHA-256: the program's small functions: right, round, plus, initial, constants; the reference's rotate, constants. No condition. -/
import Derived.Test.YtnholkjgdpapbaaShaV
namespace Go.Proofs.Ytnholkjgdpapbaa
set_option linter.unusedVariables false
set_option linter.unusedSimpArgs false
set_option maxRecDepth 10000
open Go.RowKit

theorem ret_u32 {a b : UInt32} (h : a = b) : Ending.returned (u32 a) = .returned (u32 b) := by rw [h]
/-! calls in a region that draws: of a callee that only reckons, and of one that draws besides -/
section
variable {P : Program} {f : FuncId} {args : Array Value} {w : World} {a n : Nat} {v : Value}
theorem q1 (h : Calls P f args (w.drewN n) fun e w' => e = .returned v ∧ w.drewN n = w') : Calls P f args (w.drewN n) fun e w'' => e = .returned v ∧ ∃ m, w'' = w.drewN m :=
  h.mono fun _ _ ⟨he, hm⟩ => ⟨he, n, hm.symm⟩
theorem q2 (h : Calls P f args (w.drewN (a + n)) fun e w' => e = .returned v ∧ w.drewN (a + n) = w') : Calls P f args (w.drewN (a + n)) fun e w'' => e = .returned v ∧ ∃ m, w'' = w.drewN (a + m) :=
  h.mono fun _ _ ⟨he, hm⟩ => ⟨he, n, hm.symm⟩
theorem q1d (h : Calls P f args (w.drewN n) fun e w' => e = .returned v ∧ ∃ m, w' = (w.drewN n).drewN m) : Calls P f args (w.drewN n) fun e w'' => e = .returned v ∧ ∃ m, w'' = w.drewN m :=
  h.mono fun _ _ ⟨he, m, hm⟩ => ⟨he, n + m, by rw [hm, World.drewN_drewN]⟩
theorem q2d (h : Calls P f args (w.drewN (a + n)) fun e w' => e = .returned v ∧ ∃ m, w' = (w.drewN (a + n)).drewN m) : Calls P f args (w.drewN (a + n)) fun e w'' => e = .returned v ∧ ∃ m, w'' = w.drewN (a + m) :=
  h.mono fun _ _ ⟨he, m, hm⟩ => ⟨he, n + m, by rw [hm, World.drewN_drewN, Nat.add_assoc]⟩
end
/-- A whole block that is stored anew. -/
theorem ldA_put {w : World} {g n : Nat} {t : TypeId} {c0 : Array Value} (h : Blk w g t c0) (cs : Array Value) (hn : cs.size = n) (hc : c0.size = n) : ldA (putW w g 0 cs) g 0 n = some cs := by
  have h1 := (h.put 0 cs).ldA 0 n (by rw [putAt_all _ _ (hc.trans hn.symm)]; omega)
  rw [h1, putAt_all _ _ (hc.trans hn.symm)]
  simp [← hn]
theorem rotl_any (x : UInt32) (n : Nat) (w : World) (hn : n = 2 ∨ n = 6 ∨ n = 7 ∨ n = 11 ∨ n = 13 ∨ n = 17 ∨ n = 18 ∨ n = 19 ∨ n = 22 ∨ n = 25) :
    Calls Try.prog 68 #[u32 x, .int .i64 (-(n : Int))] w fun e w' => e = .returned (u32 (rotr x n)) ∧ w = w' := by
  obtain ⟨z, hb, hz⟩ : ∃ z : Nat, bits BinOp.and IntKind.u64 (IntKind.u64.wrap (-(n : Int))) 31 = (z : Int) ∧ z = 32 - n := ⟨32 - n, by rcases hn with rfl | rfl | rfl | rfl | rfl | rfl | rfl | rfl | rfl | rfl <;> decide, rfl⟩
  have h1 : (0 : Int) ≤ (n : Int) := by omega
  have h2 : (n : Int) < 32 := by omega
  have h3 : (0 : Int) ≤ (z : Int) := by omega
  have h4 : (z : Int) < 32 := by omega
  have h5 : IntKind.u64.wrap (32 - (z : Int)) = (n : Int) := by rw [IntWalk.u64_in _ (by omega)]; omega
  have h6 : (32 - (z : Int)) = (n : Int) := by omega
  have HZ := Lib.hid hz
  clear hn hz
  go_enter Try.func68, Try.ntmps68
  go_wp2_with fail
  go_ret
  refine ⟨ret_u32 ?_, rfl⟩
  unfold rotr
  rw [UInt32.or_comm, HZ.out]
theorem right_any (x : UInt32) (n : Nat) (w : World) (hn : n = 2 ∨ n = 6 ∨ n = 7 ∨ n = 11 ∨ n = 13 ∨ n = 17 ∨ n = 18 ∨ n = 19 ∨ n = 22 ∨ n = 25) :
    Calls Try.prog 65 #[u32 x, .int .i64 (n : Int)] w fun e w' => e = .returned (u32 (rotr x n)) ∧ w = w' := by
  have hw : IntKind.i64.wrap (0 - (n : Int)) = -(n : Int) := by rw [IntWalk.i64_in _ (by omega)]; omega
  have hw' : IntKind.i64.wrap (-(n : Int)) = -(n : Int) := by rw [IntWalk.i64_in _ (by omega)]
  have HN := Lib.hid hn
  clear hn
  go_enter Try.func65, Try.ntmps65
  go_wp2_with fail
  refine (rotl_any x n _ HN.out).mono ?_
  rintro e w1 ⟨rfl, rfl⟩
  go_wp2_with fail
  go_ret
  exact ⟨rfl, rfl⟩
theorem rotate_any (x : UInt32) (n : Nat) (w : World) (hn : n = 2 ∨ n = 6 ∨ n = 7 ∨ n = 11 ∨ n = 13 ∨ n = 17 ∨ n = 18 ∨ n = 19 ∨ n = 22 ∨ n = 25) :
    Calls Try.prog 55 #[u32 x, .int .i64 (n : Int)] w fun e w' => e = .returned (u32 (rotr x n)) ∧ ∃ k, w' = w.drewN k := by
  obtain ⟨z, hz⟩ : ∃ z : Nat, z = 32 - n := ⟨_, rfl⟩
  have h1 : (0 : Int) ≤ (n : Int) := by omega
  have h2 : (n : Int) < 32 := by omega
  have h3 : (0 : Int) ≤ (z : Int) := by omega
  have h4 : (z : Int) < 32 := by omega
  have hw : IntKind.i64.wrap (32 - (n : Int)) = (z : Int) := by rw [IntWalk.i64_in _ (by omega)]; omega
  have HZ := Lib.hid hz
  clear hn hz
  go_enter Try.func55, Try.ntmps55
  go_wp2_with fail
  go_quiet (fail)
  go_wp2_with fail
  go_ret
  exact ⟨ret_u32 (by unfold rotr; rw [HZ.out]), _, rfl⟩
/-- A literal of eight words. -/
@[go_sem] theorem run_bd_words (w : World) (a b c d e f g h : UInt32) : (bd 117 #[(0, u32 a), (1, u32 b), (2, u32 c), (3, u32 d), (4, u32 e), (5, u32 f), (6, u32 g), (7, u32 h)]).run Try.prog w = .ok (.agg #[u32 a, u32 b, u32 c, u32 d, u32 e, u32 f, u32 g, u32 h]) w := by kernel_rfl
@[go_sem] theorem run_bd_init (w : World) : (bd 117 #[(0, .int .u32 1779033703), (1, .int .u32 3144134277), (2, .int .u32 1013904242), (3, .int .u32 2773480762), (4, .int .u32 1359893119), (5, .int .u32 2600822924), (6, .int .u32 528734635), (7, .int .u32 1541459225)]).run Try.prog w = .ok (stV st0) w := by kernel_rfl
def Rot (i : Int) : Prop := i = 2 ∨ i = 6 ∨ i = 7 ∨ i = 11 ∨ i = 13 ∨ i = 17 ∨ i = 18 ∨ i = 19 ∨ i = 22 ∨ i = 25
instance (i : Int) : Decidable (Rot i) := by unfold Rot; infer_instance
theorem right_int (x : UInt32) (i : Int) (w : World) (hi : Rot i) : Calls Try.prog 65 #[u32 x, .int .i64 i] w fun e w' => e = .returned (u32 (rotr x i.toNat)) ∧ w = w' := by
  unfold Rot at hi
  obtain ⟨n, rfl⟩ := Int.eq_ofNat_of_zero_le (show 0 ≤ i by omega)
  rw [Int.toNat_natCast]; exact right_any x n w (by omega)
theorem rotate_int (x : UInt32) (i : Int) (w : World) (hi : Rot i) : Calls Try.prog 55 #[u32 x, .int .i64 i] w fun e w' => e = .returned (u32 (rotr x i.toNat)) ∧ ∃ k, w' = w.drewN k := by
  unfold Rot at hi
  obtain ⟨n, rfl⟩ := Int.eq_ofNat_of_zero_le (show 0 ≤ i by omega)
  rw [Int.toNat_natCast]; exact rotate_any x n w (by omega)
theorem init_any (w : World) : Calls Try.prog 59 #[] w fun e w' => e = .returned (stV st0) ∧ Fr0 w w' := by
  go_enter Try.func59, Try.ntmps59
  go_wp2_with fail
  refine bodyPost_agg (n := 8) rfl Try.underlying117 rfl info_bulletin_sha256_words (by rfl) (by simp) rfl ⟨rfl, (Fr.refl _ _).alloc _⟩
set_option maxHeartbeats 1000000 in
theorem round_any (s : St) (k x : UInt32) (w : World) : Calls Try.prog 66 #[stV s, u32 k, u32 x] w fun e w' => e = .returned (stV (rnd s k x)) ∧ Fr0 w w' := by
  have hb1 := Blk.new (w.alloc (.cells (stC s) 117)) 117 #[.int .u32 0, .int .u32 0, .int .u32 0, .int .u32 0, .int .u32 0, .int .u32 0, .int .u32 0, .int .u32 0]
  rw [show (w.alloc (.cells (stC s) 117)).heap.size = w.heap.size + 1 by simp] at hb1
  have HB1 := Lib.hid hb1
  clear hb1
  go_enter Try.func66, Try.ntmps66
  go_wp2_with fail
  go_quiet ((go_at_call 65; exact q1 (right_int _ _ _ (by decide))))
  go_wp2_with fail
  go_quiet ((go_at_call 65; exact q2 (right_int _ _ _ (by decide))))
  go_wp2_with fail
  refine bodyPost_agg (n := 8) (cs := stC (rnd s k x)) rfl Try.underlying117 rfl info_bulletin_sha256_words (by rfl) ?_ rfl ⟨rfl, ((((Fr.refl _ _).alloc _).alloc _).drewN _).put (fun h => by omega) _ _⟩
  exact ldA_put (HB1.out.drewN _) _ rfl rfl
set_option maxHeartbeats 1000000 in
theorem plus_any (s o : St) (w : World) : Calls Try.prog 67 #[stV s, stV o] w fun e w' => e = .returned (stV (plusS s o)) ∧ Fr0 w w' := by
  go_enter Try.func67, Try.ntmps67
  go_wp2_with fail
  exact bodyPost_agg (n := 8) (cs := stC (plusS s o)) rfl Try.underlying117 rfl info_bulletin_sha256_words (by rfl) (by simp [plusS]) rfl ⟨rfl, (((Fr.refl _ _).alloc _).alloc _).alloc _⟩
def kC : Array Value := (kTab.map u32).toArray
theorem kC_size : kC.size = 64 := rfl
theorem run_bd_k (w : World) : (bd 106 #[(0, .int .u32 1116352408), (1, .int .u32 1899447441), (2, .int .u32 3049323471), (3, .int .u32 3921009573), (4, .int .u32 961987163), (5, .int .u32 1508970993), (6, .int .u32 2453635748), (7, .int .u32 2870763221), (8, .int .u32 3624381080), (9, .int .u32 310598401), (10, .int .u32 607225278), (11, .int .u32 1426881987), (12, .int .u32 1925078388), (13, .int .u32 2162078206), (14, .int .u32 2614888103), (15, .int .u32 3248222580), (16, .int .u32 3835390401), (17, .int .u32 4022224774), (18, .int .u32 264347078), (19, .int .u32 604807628), (20, .int .u32 770255983), (21, .int .u32 1249150122), (22, .int .u32 1555081692), (23, .int .u32 1996064986), (24, .int .u32 2554220882), (25, .int .u32 2821834349), (26, .int .u32 2952996808), (27, .int .u32 3210313671), (28, .int .u32 3336571891), (29, .int .u32 3584528711), (30, .int .u32 113926993), (31, .int .u32 338241895), (32, .int .u32 666307205), (33, .int .u32 773529912), (34, .int .u32 1294757372), (35, .int .u32 1396182291), (36, .int .u32 1695183700), (37, .int .u32 1986661051), (38, .int .u32 2177026350), (39, .int .u32 2456956037), (40, .int .u32 2730485921), (41, .int .u32 2820302411), (42, .int .u32 3259730800), (43, .int .u32 3345764771), (44, .int .u32 3516065817), (45, .int .u32 3600352804), (46, .int .u32 4094571909), (47, .int .u32 275423344), (48, .int .u32 430227734), (49, .int .u32 506948616), (50, .int .u32 659060556), (51, .int .u32 883997877), (52, .int .u32 958139571), (53, .int .u32 1322822218), (54, .int .u32 1537002063), (55, .int .u32 1747873779), (56, .int .u32 1955562222), (57, .int .u32 2024104815), (58, .int .u32 2227730452), (59, .int .u32 2361852424), (60, .int .u32 2428436474), (61, .int .u32 2756734187), (62, .int .u32 3204031479), (63, .int .u32 3329325298)]).run Try.prog w = .ok (.agg kC) w := by kernel_rfl
theorem const_any (w : World) : Calls Try.prog 64 #[] w fun e w' => e = .returned (.agg kC) ∧ Fr0 w w' := by
  have hr := run_bd_k
  have hst : ∀ (w : World) (b o : Nat), okA w b o 64 = true → (st 106 (.pointer (some ⟨b, o, none⟩)) (.agg kC)).run Try.prog w = .ok () (putW w b o kC) := fun w b o h => run_st w kC (by rw [info__64_uint32]; rfl) (by kernel_rfl) b o h
  have h1 : kC.size = 64 := rfl
  go_enter Try.func64, Try.ntmps64
  go_wp2_with fail
  refine bodyPost_agg (n := 64) (cs := kC) rfl Try.underlying106 rfl info__64_uint32 (by rfl) ?_ rfl ⟨rfl, (Fr.refl _ _).alloc _⟩
  have h := (Blk.new w 106 kC).ldA 0 64 (Nat.le_refl _)
  rw [h]
  show some (kC.extract 0 kC.size) = _
  rw [Array.extract_size]
theorem rconst_any (w : World) : Calls Try.prog 52 #[] w fun e w' => e = .returned (.agg kC) ∧ Fr0 w w' := by
  have hr := run_bd_k
  have hst : ∀ (w : World) (b o : Nat), okA w b o 64 = true → (st 106 (.pointer (some ⟨b, o, none⟩)) (.agg kC)).run Try.prog w = .ok () (putW w b o kC) := fun w b o h => run_st w kC (by rw [info__64_uint32]; rfl) (by kernel_rfl) b o h
  have h1 : kC.size = 64 := rfl
  go_enter Try.func52, Try.ntmps52
  go_wp2_with fail
  refine bodyPost_agg (n := 64) (cs := kC) rfl Try.underlying106 rfl info__64_uint32 (by rfl) ?_ rfl ⟨rfl, (Fr.refl _ _).alloc _⟩
  have h := (Blk.new w 106 kC).ldA 0 64 (Nat.le_refl _)
  rw [h]
  show some (kC.extract 0 kC.size) = _
  rw [Array.extract_size]
end Go.Proofs.Ytnholkjgdpapbaa
