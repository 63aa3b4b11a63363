/- strings.Builder's WriteByte and String; ascii.Hex; bulletinref01.Hex. No condition beyond the lengths that are named. -/
import Derived.Test.YtndcofoilglpjaaBytes
import Derived.Test.YtndcofoilglpjaaShaB
import Derived.Lib.Builder
import Derived.Lib.UnsafeStr
import Derived.Laws.Externs
import Derived.Laws.BytesString
namespace Go.Proofs.Ytndcofoilglpjaa
set_option linter.unusedVariables false
set_option linter.unusedSimpArgs false
open Go.RowKit
attribute [local go_sem ↓] Go.wp_at_zero Go.wp_at_succ

/-- Block b holds a Builder with the bytes l, in a row of its own that lies behind it. -/
def BldAt (w : World) (b : Nat) (l : List UInt8) : Prop := ∃ p v, Blk w b 75 #[p, v] ∧ (p = .pointer none ∨ p = .pointer (some ⟨b, 0, none⟩)) ∧ w.ownsRow (b + 1) 5 1 v l.length (bs l)
abbrev FrB (b : Nat) (w w' : World) : Prop := Fr (fun k => b ≤ k) w w'
theorem size_bld : ∃ j, Try.prog.info? 75 = some j ∧ j.size ≠ 0 := by
  obtain ⟨j, hj, h⟩ := Option.map_eq_some_iff.1 (show (Try.prog.info? 75).map (·.size) = some 2 by kernel_rfl)
  exact ⟨j, hj, by rw [h]; decide⟩
theorem lies_bld : liesAt Try.prog Try.prog.depth 75 (2 / Try.prog.cellsOf 75) 0 75 1 = true := by kernel_rfl
theorem blk_shape {w : World} {b : Nat} {t : TypeId} {cs : Array Value} (h : Blk w b t cs) : w.shape? b = some (t, cs.size) := by
  unfold Blk at h; simp [World.shape?, h]

theorem check_used (b : Nat) (w : World) (h0 : w.cell? ⟨b, 0, none⟩ = some (.pointer (some ⟨b, 0, none⟩))) : Calls Try.prog 46 #[.pointer (some ⟨b, 0, none⟩)] w fun e w' => e = .returned (.tuple #[]) ∧ w = w' := by
  obtain ⟨j, hj, _⟩ := size_bld
  go_enter Try.func46, Try.ntmps46
  go_wp2
  rw [Lib.run_neq_ptr_same w _ Try.underlying73 hj]
  go_wp2
  go_end0
  exact ⟨rfl, rfl⟩
theorem check_fresh (b : Nat) (v : Value) (w : World) (hb : Blk w b 75 #[.pointer none, v]) : Calls Try.prog 46 #[.pointer (some ⟨b, 0, none⟩)] w fun e w' => e = .returned (.tuple #[]) ∧ w' = w.setCell ⟨b, 0, none⟩ (.pointer (some ⟨b, 0, none⟩)) := by
  obtain ⟨j, hj, hjs⟩ := size_bld
  have h0 := hb.cell 0
  have hfz := hb.frozen 0
  have hsh := blk_shape hb
  simp at h0
  have HJ := Lib.hid hj
  clear hb hj
  go_enter Try.func46, Try.ntmps46
  go_wp2
  rw [Lib.run_to_unsafe w ⟨b, 0, none⟩ Try.underlying73 Try.underlying83 HJ.out hjs hsh (Nat.zero_lt_succ 1)]
  simp only [Result.andThen]
  rw [Oper.upon_value]
  go_wp2
  rw [run_callFunc_extern Try.func49 (by kernel_rfl) (by kernel_rfl) (by kernel_rfl) (e := Extern.AbiNoEscape.same) (by kernel_rfl)]
  rw [Lib.run_noEscape]
  simp only [Result.andThen]
  rw [Oper.upon_value]
  go_wp2
  rw [Lib.run_from_unsafe w ⟨b, 0, none⟩ Try.underlying83 Try.underlying73 HJ.out hsh lies_bld]
  simp only [Result.andThen]
  rw [Oper.upon_value]
  go_wp2
  go_end0
  exact ⟨rfl, rfl⟩
theorem check_any (b : Nat) (l : List UInt8) (w : World) (h : BldAt w b l) : Calls Try.prog 46 #[.pointer (some ⟨b, 0, none⟩)] w fun e w' => e = .returned (.tuple #[]) ∧ (∃ v, Blk w' b 75 #[.pointer (some ⟨b, 0, none⟩), v] ∧ w'.ownsRow (b + 1) 5 1 v l.length (bs l)) ∧ FrB b w w' := by
  obtain ⟨p, v, hb, hp, ho⟩ := h
  rcases hp with rfl | rfl
  · refine (check_fresh b v w hb).mono ?_
    rintro e w1 ⟨rfl, rfl⟩
    refine ⟨rfl, ⟨v, ?_, ?_⟩, (Fr.refl (fun k => b ≤ k) w).setCell (p := ⟨b, 0, none⟩) (fun _ => Nat.le_refl _) _⟩
    · have := hb.set_ 0 (.pointer (some ⟨b, 0, none⟩)); simpa using this
    · exact own_fr ho ((Fr.refl (fun k => k = b) w).setCell (p := ⟨b, 0, none⟩) (fun _ => rfl) _) (fun k hk e => by have := own_ge _ ho k hk; omega)
  · have h0 := hb.cell 0
    simp at h0
    refine (check_used b w h0).mono ?_
    rintro e w1 ⟨rfl, rfl⟩
    exact ⟨rfl, ⟨v, hb, ho⟩, Fr.refl _ _⟩

theorem writeByte_any (b : Nat) (l : List UInt8) (x : UInt8) (w : World) (h : BldAt w b l) (hl : l.length ≤ 1000000000) : Calls Try.prog 37 #[.pointer (some ⟨b, 0, none⟩), u8 x] w fun e w' => e = .returned .nilIface ∧ BldAt w' b (l ++ [x]) ∧ FrB b w w' := by
  have H := Lib.hid h
  clear h
  go_enter Try.func37, Try.ntmps37
  go_wp2_with fail
  refine (check_any b l w H.out).mono ?_
  rintro e w1 ⟨rfl, ⟨v, hb, ho⟩, hf⟩
  obtain ⟨A, c, rfl, h1, h2⟩ := own_form ho
  have hc1 := hb.cell 1
  simp at hc1
  obtain ⟨A2, c2, w2, hrun2, hown2, hG2, hge2, -⟩ := app_by (w1.alloc (.cells #[u8 x] 5)) (own_fr0 ho ((Fr.refl _ _).alloc _)) (sl_bs1 w1 x) (by simp only [List.length_singleton]; omega) (by have := hb.lt; simp; omega)
  have hb2 : Blk w2 b 75 #[.pointer (some ⟨b, 0, none⟩), .slice A l.length c] := (hb.alloc _).fr hG2 (fun hk => by have := hge2 b hk; omega)
  have hF2 : FrB b w w2 := (hf.alloc _).then_ hG2 (fun i hi hk => by have := hge2 i hk; omega)
  have hc2 := hb2.cell 1
  have hz2 := hb2.frozen 1
  simp at hc2
  have HB2 := Lib.hid hb2
  have HO2 := Lib.hid hown2
  have HF2 := Lib.hid hF2
  obtain ⟨N, hN⟩ : ∃ N, N = (l ++ [x]).length := ⟨_, rfl⟩
  rw [← hN] at hrun2
  have HN := Lib.hid hN
  clear hb ho hf hown2 hG2 hge2 hb2 hF2 hN
  go_wp2_with fail
  go_ret
  refine ⟨rfl, ⟨.pointer (some ⟨b, 0, none⟩), .slice A2 N c2, ?_, .inr rfl, ?_⟩, HF2.out.setCell (p := ⟨b, 1, none⟩) (fun _ => Nat.le_refl _) _⟩
  · have := HB2.out.set_ 1 (.slice A2 N c2); simpa using this
  · have ho := HO2.out
    rw [← HN.out] at ho ⊢
    exact own_fr ho ((Fr.refl (fun k => k = b) w2).setCell (p := ⟨b, 1, none⟩) (fun _ => rfl) _) (fun k hk e => by have := own_ge _ ho k hk; omega)

theorem bstring_any (b : Nat) (l : List UInt8) (w : World) (h : BldAt w b l) (h0 : l ≠ []) (hl : l.length ≤ 1000000000) : Calls Try.prog 38 #[.pointer (some ⟨b, 0, none⟩)] w fun e w' => e = .returned (.string ⟨l.toArray⟩) ∧ Below b w w' := by
  obtain ⟨p, v, hb, hp, hown⟩ := h
  have hl0 : l.length ≠ 0 := by simpa using h0
  obtain ⟨g, cap, cur, rfl, hbg, hg, hnc, hcm, hcs, htake⟩ : ∃ g cap cur, v = .slice (some ⟨g, 0, none⟩) l.length cap ∧ b + 1 ≤ g ∧ w.heap[g]? = some (.cells cur 5 (0, 0)) ∧ l.length ≤ cap ∧ cap ≤ maxLen ∧ cur.size = cap * 1 ∧ cur.toList.take (l.length * 1) = bs l := by
    rcases hown.2 with ⟨_, hz⟩ | ⟨g, cap, cur, hv, r⟩
    · exact absurd hz hl0
    · exact ⟨g, cap, cur, hv, r⟩
  have c1 : w.drew.cell? ⟨b, 1, none⟩ = some (.slice (some ⟨g, 0, none⟩) l.length cap) := by
    have := hb.drew.cell 1
    simpa using this
  have hSD : (Builtin.unsafeSliceData_ #[22] 82 #[.slice (some ⟨g, 0, none⟩) l.length cap]).run Try.prog w.drew = .ok (.pointer (some ⟨g, 0, none⟩)) w.drew :=
    Lib.run_unsafeSliceData_row _ _ _ _ _ _ (by omega)
  have hUS : (Builtin.unsafeString_ #[82, 3] 9 #[.pointer (some ⟨g, 0, none⟩), .int .i64 l.length]).run Try.prog w.drew = .ok (.string ⟨l.toArray⟩) (w.drew.freeze ⟨g, 0, none⟩ l.length) := by
    refine Lib.run_unsafeString_row w.drew 82 3 9 5 Try.underlying82 (by kernel_rfl) g cur.size (by have hg' : w.drew.heap[g]? = some (.cells cur 5 (0, 0)) := hg; simp [World.shape?, hg']) l h0 (by omega) (by unfold maxLen at hcm; omega) ?_
    intro j x hx
    have := hown.cells (g := g) rfl j (.int .u8 x.toNat) (by simp [bs, u8, hx])
    exact this
  clear hb hown hg htake hcs hp
  go_enter Try.func38, Try.ntmps38
  go_wp2
  go_region
  all_goals (go_wp2; go_ret; exact ⟨rfl, Lib.below_freeze (Below.drew (Below.refl b w)) (p := ⟨g, 0, none⟩) (by dsimp only; omega) _⟩)

/-! hexadecimal -/
def hexDig (x : UInt8) : UInt8 := if x < 10 then 48 + x else 87 + x
def hexB (c : UInt8) : List UInt8 := [hexDig (c / 16), hexDig (c % 16)]
def hexL (l : List UInt8) : List UInt8 := l.flatMap hexB
@[simp] theorem hexL_length (l : List UInt8) : (hexL l).length = 2 * l.length := by
  induction l with
  | nil => rfl
  | cons c l ih => simp only [hexL, List.flatMap_cons, List.length_append, List.length_cons] at ih ⊢; rw [ih]; simp [hexB]; omega
theorem hexL_snoc (l : List UInt8) (c : UInt8) : hexL (l ++ [c]) = (hexL l ++ [hexDig (c / 16)]) ++ [hexDig (c % 16)] := by simp [hexL, hexB]
abbrev digitsV : Value := .string ⟨#[48, 49, 50, 51, 52, 53, 54, 55, 56, 57, 97, 98, 99, 100, 101, 102]⟩
def ixs (T : TypeId) (x i : Value) : Sem Value := Instr.index T x i
@[go_sem ↓] theorem ex_ixs (ρ : Operand → Value) (dst : Option Tmp) (x y : Operand) (ty : TypeId) (pos : String) (aft : Array Edge) (gd : Option (Nat × Bool)) :
    execOp ρ ⟨dst, .index 9 x y, ty, pos, aft, gd⟩ = (do pure (.value (← ixs 9 (ρ x) (ρ y)))) := rfl
theorem run_ixs (x : UInt8) (h : x.toNat < 16) (w : World) : (ixs 9 digitsV (u8 x)).run Try.prog w = .ok (u8 (hexDig x)) w := by
  obtain ⟨n, hn, rfl⟩ : ∃ n, n < 16 ∧ x = UInt8.ofNat n := ⟨x.toNat, h, by simp⟩
  clear h
  rcases (show n = 0 ∨ n = 1 ∨ n = 2 ∨ n = 3 ∨ n = 4 ∨ n = 5 ∨ n = 6 ∨ n = 7 ∨ n = 8 ∨ n = 9 ∨ n = 10 ∨ n = 11 ∨ n = 12 ∨ n = 13 ∨ n = 14 ∨ n = 15 by omega) with rfl | rfl | rfl | rfl | rfl | rfl | rfl | rfl | rfl | rfl | rfl | rfl | rfl | rfl | rfl | rfl
  all_goals kernel_rfl
def op8 (o : BinOp) (x y : Value) : Sem Value := binOp o 5 x y
@[go_sem ↓] theorem ex8_shr (x y : Value) : binOp .shr 5 x y = op8 .shr x y := rfl
@[go_sem ↓] theorem ex8_and (x y : Value) : binOp .and 5 x y = op8 .and x y := rfl
@[go_sem ↓] theorem ex8_quo (x y : Value) : binOp .quo 5 x y = op8 .quo x y := rfl
@[go_sem ↓] theorem ex8_rem (x y : Value) : binOp .rem 5 x y = op8 .rem x y := rfl
theorem u8_mk {n : Int} {x : UInt8} (h : n = (x.toNat : Int)) : Value.int .u8 n = u8 x := by rw [h]; rfl
@[go_sem] theorem run8_shr4 (w : World) (c : UInt8) : (op8 .shr (u8 c) (.int .u64 4)).run Try.prog w = .ok (u8 (c / 16)) w := by
  have h : ((c.toNat : Int).fdiv (2 ^ 4)) = ((c / 16).toNat : Int) := by
    rw [Int.fdiv_eq_ediv_of_nonneg _ (by decide), UInt8.toNat_div]; simp
  show Sem.run _ (pure (Value.int IntKind.u8 ((c.toNat : Int).fdiv (2 ^ 4)))) w = _
  rw [h]; rfl
@[go_sem] theorem run8_and15 (w : World) (c : UInt8) : (op8 .and (u8 c) (.int .u8 15)).run Try.prog w = .ok (u8 (c % 16)) w := by
  have h : IntKind.u8.wrap ((BitVec.ofInt IntKind.u8.bits (c.toNat : Int) &&& BitVec.ofInt IntKind.u8.bits (15 : Int) : BitVec IntKind.u8.bits).toNat : Int) = ((c % 16).toNat : Int) := by
    have hc := c.toNat_lt
    have e1 : BitVec.ofInt IntKind.u8.bits (c.toNat : Int) = BitVec.ofNat 8 c.toNat := by
      show BitVec.ofInt 8 _ = _
      apply BitVec.eq_of_toNat_eq; simp
    rw [e1]
    show IntKind.u8.wrap ((BitVec.ofNat 8 c.toNat &&& 15#8 : BitVec 8).toNat : Int) = _
    have e2 : (BitVec.ofNat 8 c.toNat &&& 15#8 : BitVec 8).toNat = c.toNat % 16 := by
      rw [BitVec.toNat_and]
      simp only [BitVec.toNat_ofNat]
      rw [Nat.mod_eq_of_lt (show c.toNat < 2 ^ 8 from hc)]
      exact Nat.and_two_pow_sub_one_eq_mod c.toNat 4
    rw [e2, UInt8.toNat_mod]
    simp only [IntKind.wrap, IntKind.bits, IntKind.signed]
    simp
    omega
  exact (show Sem.run _ (pure (Value.int IntKind.u8 _)) w = _ from by rw [h]; rfl)
theorem div_lt16 (c : UInt8) : (c / 16).toNat < 16 := by have := c.toNat_lt; rw [UInt8.toNat_div]; simp; omega
theorem mod_lt16 (c : UInt8) : (c % 16).toNat < 16 := by rw [UInt8.toNat_mod]; simp; omega

set_option maxHeartbeats 2000000 in
theorem hex_any (l : List UInt8) (B : Nat) (v : Value) (w : World) (hs : Rd w B v l) (h0 : l ≠ []) (hl : l.length ≤ 100000) :
    Calls Try.prog 32 #[v] w fun e w' => e = .returned (.string ⟨(hexL l).toArray⟩) ∧ Fr0 w w' := by
  obtain ⟨A, c, rfl, h1, h2⟩ := hs.form
  have hpos : 0 < l.length := List.length_pos_iff.2 h0
  obtain ⟨b, off, rfl, -, hb, hx⟩ := hs.at_ hpos
  have HX := Lib.hid hx
  clear hs hx
  go_enter Try.func32, Try.ntmps32
  go_wp2_with fail
  go_loopw [8] (fun iv wr => ∃ k : Nat, k ≤ l.length ∧ iv = .int .i64 k ∧ BldAt wr w.heap.size (hexL (l.take k)) ∧ Fr0 w wr) (fun iv _ => l.length - (intOf iv).toNat)
  case atStart =>
    refine ⟨0, by omega, rfl, ⟨.pointer none, .slice none 0 0, Blk.new w 75 #[.pointer none, .slice none 0 0], .inl rfl, ?_⟩, (Fr.refl _ _).alloc _⟩
    simp only [List.take_zero]; exact own_nil8 _ _
  case round =>
    obtain ⟨k, hk, rfl, hB, hF⟩ := hrel
    by_cases hlt : k < l.length
    · have hc : wr.cell? ⟨b, off + k, none⟩ = some (Proofs.Ytndcofoilglpjaa.u8 l[k]) := by
        rw [hF.cell (p := ⟨b, off + k, none⟩) hb (fun h => h)]
        exact HX.out k _ (by simp [hlt])
      have htk : l.take (k + 1) = l.take k ++ [l[k]] := by rw [List.take_succ_eq_append_getElem hlt]
      have hix1 := run_ixs (l[k] / 16) (div_lt16 _)
      have hix2 := run_ixs (l[k] % 16) (mod_lt16 _)
      have hln : (hexL (l.take k)).length ≤ 200000 := by rw [hexL_length]; have := List.length_take_le k l; omega
      obtain ⟨x, hxk⟩ : ∃ x, x = l[k] := ⟨_, rfl⟩
      rw [← hxk] at hc htk hix1 hix2
      have HTK := Lib.hid htk
      have HB := Lib.hid hB
      have HF := Lib.hid hF
      have HLN := Lib.hid hln
      clear hB hF htk hxk hln
      go_wp2_with fail
      refine (writeByte_any _ _ _ _ HB.out (by have := HLN.out; omega)).mono ?_
      rintro e w1 ⟨rfl, hB1, hF1⟩
      have HB1 := Lib.hid hB1
      have HF1 := Lib.hid hF1
      clear hB1 hF1
      go_wp2_with fail
      refine (writeByte_any _ _ _ _ HB1.out (by have := HLN.out; simp; omega)).mono ?_
      rintro e w2 ⟨rfl, hB2, hF2⟩
      have HB2 := Lib.hid hB2
      have HF2 := Lib.hid hF2
      clear hB2 hF2 hc hix1 hix2
      go_wp2_with fail
      go_roundw
      case rel =>
        refine ⟨k + 1, by omega, by go_num, ?_, (HF.out.then_ (S := fun _ => False) (HF1.out.trans HF2.out) (fun i hi hk => by omega))⟩
        rw [HTK.out, hexL_snoc]
        exact HB2.out
      case measure => simp [intOf]; omega
    · have hkl : k = l.length := by omega
      subst hkl
      rw [List.take_length] at hB
      have HB := Lib.hid hB
      have HF := Lib.hid hF
      clear hB hF
      go_wp2_with fail
      refine (bstring_any _ _ _ HB.out (by intro h; have := congrArg List.length h; simp at this; omega) (by simp; omega)).mono ?_
      rintro e w2 ⟨rfl, hbl⟩
      go_wp2_with fail
      go_ret
      exact ⟨rfl, HF.out.then_ (S := fun _ => False) (S' := fun j => w.heap.size ≤ j) (Fr.of_below hbl (fun j _ h => Nat.lt_of_not_le h)) (fun i hi h => absurd hi (Nat.not_lt_of_le h))⟩
end Go.Proofs.Ytndcofoilglpjaa
