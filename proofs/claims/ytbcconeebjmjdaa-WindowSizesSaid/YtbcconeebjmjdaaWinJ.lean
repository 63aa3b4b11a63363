/- WindowSizes: for any number, New and Resize accept the sizes from 1 to 64 only. No condition. -/
import Derived.Test.YtbcconeebjmjdaaWinI
import Derived.Test.YtbcconeebjmjdaaRows
import Derived.ProofKit
import Derived.OpenShut
import Derived.ShutString
import Derived.ChangeOld
namespace Go.Proofs.Ytbcconeebjmjdaa
open Go.RowKit

set_option maxHeartbeats 1000000 in
theorem sizes_walk (n : Int) (w : World) : Calls Try.prog 4 #[.int .i64 n] w fun e w' => e = .returned (.bool true) ∧ Below w.heap.size w w' := by
  by_cases h : 1 ≤ n ∧ n ≤ 64
  · obtain ⟨h1, h2⟩ := h
    have hn1 : ¬ n < 1 := by omega
    have hn2 : ¬ 64 < n := by omega
    go_enter Try.func4, Try.ntmps4
    go_wp2_with fail
    refine (known_any _).mono ?_
    rintro e w1 ⟨rfl, hf1⟩
    have HF1 := Lib.hid hf1
    clear hf1
    go_wp2_with fail
    refine (new_yes n _ ⟨h1, h2⟩).mono ?_
    rintro e w2 ⟨g, rfl, hg, hW, hf2⟩
    have HW2 := Lib.hid hW
    have HF2 := Lib.hid (HF1.out.trans hf2)
    have HG := Lib.hid (show w.heap.size ≤ g from Nat.le_trans HF1.out.size hg)
    clear hW hf2
    go_wp2_with fail
    refine (new_yes 7 _ (by omega)).mono ?_
    rintro e w3 ⟨x, rfl, hx, hX, hf3⟩
    have HG3 := Lib.hid (show g ≠ x by have := HW2.out.lt; omega)
    have HX := Lib.hid (show w.heap.size ≤ x from Nat.le_trans HF2.out.size hx)
    have HW3 := Lib.hid (HW2.out.fr0 hf3)
    have HX3 := Lib.hid hX
    have HF3 := Lib.hid (HF2.out.trans hf3)
    clear hX hf3 hg hx
    go_wp2_with fail
    refine (resize_yes x ⟨7, []⟩ n _ HX3.out ⟨h1, h2⟩).mono ?_
    rintro e w4 ⟨rfl, hX, hf4⟩
    have HW4 := Lib.hid (HW3.out.fr1 HX3.out hf4 HG3.out)
    have HX4 := Lib.hid hX
    have HF4 := Lib.hid (HF3.out.then_ (S := fun _ => False) hf4 (fun i hi e => by have := HX.out; omega))
    clear hX hf4
    go_wp2_with fail
    refine (size_any g ⟨n, []⟩ _ HW4.out).mono ?_
    rintro e w5 ⟨rfl, rfl⟩
    go_wp2_with fail
    refine (room_any g ⟨n, []⟩ _ HW4.out (by simp) (by simp; omega) (by simp; omega)).mono ?_
    rintro e w5 ⟨rfl, hf5⟩
    have hroom : max 0 (n - ((outs ([] : List Off)).length : Int)) = n := by simp [outs]; omega
    have HW5 := Lib.hid (HW4.out.fr0 hf5)
    have HX5 := Lib.hid (HX4.out.fr0 hf5)
    have HF5 := Lib.hid (HF4.out.trans hf5)
    clear hf5
    simp only [hroom]
    clear hroom
    go_wp2_with fail
    refine (len_any g ⟨n, []⟩ _ HW5.out).mono ?_
    rintro e w6 ⟨rfl, rfl⟩
    go_wp2_with fail
    refine (size_any x ⟨n, []⟩ _ HX5.out).mono ?_
    rintro e w6 ⟨rfl, rfl⟩
    go_wp2_with fail
    go_ret
    exact ⟨ret_bool (by simp), Fr0.below HF5.out⟩
  · go_enter Try.func4, Try.ntmps4
    go_wp2_with fail
    refine (known_any _).mono ?_
    rintro e w1 ⟨rfl, hf1⟩
    have HF1 := Lib.hid hf1
    clear hf1
    go_wp2_with fail
    refine (new_no n _ h).mono ?_
    rintro e w2 ⟨rfl, rfl⟩
    go_wp2_with fail
    refine (new_yes 7 _ (by omega)).mono ?_
    rintro e w3 ⟨x, rfl, hx, hX, hf3⟩
    have HX3 := Lib.hid hX
    have HF3 := Lib.hid (HF1.out.trans hf3)
    clear hX hf3 hx
    go_wp2_with fail
    refine (resize_no x n _ h).mono ?_
    rintro e w4 ⟨rfl, rfl⟩
    rcases (show n < 1 ∨ (¬ n < 1 ∧ 64 < n) by omega) with hn | ⟨hn, hn'⟩
    all_goals
      go_wp2_with fail
      refine (size_any x ⟨7, []⟩ _ HX3.out).mono ?_
      rintro e w6 ⟨rfl, rfl⟩
      go_wp2_with fail
      go_ret
      exact ⟨rfl, Fr0.below HF3.out⟩
end Go.Proofs.Ytbcconeebjmjdaa
