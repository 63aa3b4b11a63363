/- WindowNil: a nil window returns ErrArgument and zero values: the walk. No condition. -/
import Derived.Test.YtbcconeebjmjdaaWinI
import Derived.Test.YtbcconeebjmjdaaRows
import Derived.Test.YtbcconeebjmjdaaOpen
namespace Go.Proofs.Ytbcconeebjmjdaa
open Go.RowKit
attribute [local go_sem ↓] Go.wp_at_zero Go.wp_at_succ

set_option maxHeartbeats 2000000 in
theorem wnil_walk (id : By 32) (n : Int) (w : World) : Calls Try.prog 10 #[idV id, .int .i64 n] w fun e w' => e = .returned (.bool true) ∧ Below w.heap.size w w' := by
  go_enter Try.func10, Try.ntmps10
  go_wp2_with fail
  refine (known_any _).mono ?_
  rintro e w1 ⟨rfl, hf1⟩
  have HB1 := Lib.hid (Blk.fr (S := fun _ => False) (Blk.new w 37 (bs id.1).toArray) hf1 (fun h => h))
  have HF1 := Lib.hid (((Fr.refl (fun _ => False) w).alloc (.cells (bs id.1).toArray 37)).trans hf1)
  have hld : ldA w1 w.heap.size 0 32 = some (bs id.1).toArray := by have := HB1.out.ldA 0 32 (by simp); simpa using this
  clear hf1
  go_wp2_with fail
  refine (outcome_nil id _).mono ?_
  rintro e w2 ⟨rfl, hf⟩
  have HB2 := Lib.hid (Blk.fr (S := fun _ => False) HB1.out hf (fun h => h))
  have HF2 := Lib.hid (HF1.out.trans hf)
  have hld2 : ldA w2 w.heap.size 0 32 = some (bs id.1).toArray := by have := HB2.out.ldA 0 32 (by simp); simpa using this
  clear hf
  go_wp2_with fail
  refine (new_yes 3 _ (by omega)).mono ?_
  rintro e w3 ⟨x, rfl, -, -, hf⟩
  have HB3 := Lib.hid (Blk.fr (S := fun _ => False) HB2.out hf (fun h => h))
  have HF3 := Lib.hid (HF2.out.trans hf)
  have hld3 : ldA w3 w.heap.size 0 32 = some (bs id.1).toArray := by have := HB3.out.ldA 0 32 (by simp); simpa using this
  clear hf
  go_wp2_with fail
  refine (offer_nil id n _).mono ?_
  rintro e w4 ⟨rfl, hf⟩
  have HB4 := Lib.hid (Blk.fr (S := fun _ => False) HB3.out hf (fun h => h))
  have HF4 := Lib.hid (HF3.out.trans hf)
  have hld4 : ldA w4 w.heap.size 0 32 = some (bs id.1).toArray := by have := HB4.out.ldA 0 32 (by simp); simpa using this
  clear hf
  go_wp2_with fail
  refine (answer_nil id n _).mono ?_
  rintro e w5 ⟨rfl, hf⟩
  have HF5 := Lib.hid (HF4.out.trans hf)
  clear hf
  go_wp2_with fail
  refine (resize_nil n _).mono ?_
  rintro e w6 ⟨rfl, rfl⟩
  go_wp2_with fail
  refine (outstanding_nil _).mono ?_
  rintro e w6 ⟨rfl, rfl⟩
  go_wp2_with fail
  refine (room_nil _).mono ?_
  rintro e w6 ⟨rfl, rfl⟩
  go_wp2_with fail
  refine (settled_nil _).mono ?_
  rintro e w6 ⟨rfl, rfl⟩
  go_wp2_with fail
  refine (drop_nil _).mono ?_
  rintro e w6 ⟨rfl, rfl⟩
  go_wp2_with fail
  refine (len_nil _).mono ?_
  rintro e w6 ⟨rfl, rfl⟩
  go_wp2_with fail
  refine (size_nil _).mono ?_
  rintro e w6 ⟨rfl, rfl⟩
  go_wp2_with fail
  refine (wclone_nil _).mono ?_
  rintro e w6 ⟨rfl, rfl⟩
  go_wp2_with fail
  refine (equal_nil_nil _).mono ?_
  rintro e w6 ⟨rfl, rfl⟩
  go_wp2_with fail
  refine (equal_nil_left x _).mono ?_
  rintro e w6 ⟨rfl, rfl⟩
  go_wp2_with fail
  refine (equal_nil_right x _).mono ?_
  rintro e w6 ⟨rfl, rfl⟩
  go_wp2_with fail
  go_ret
  exact ⟨rfl, Fr0.below HF5.out⟩
end Go.Proofs.Ytbcconeebjmjdaa
