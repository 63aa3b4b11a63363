/- One-time signatures: the closure digit of Split. -/
import Derived.Test.YtjdbfedkadoklaaOtH
namespace Go.Proofs.Ytjdbfedkadoklaa
set_option linter.unusedVariables false
set_option linter.unusedSimpArgs false
set_option maxRecDepth 10000
open Go.RowKit
attribute [local go_sem ↓] Go.wp_at_zero Go.wp_at_succ

@[go_sem] theorem run_store_func {P : Program} (w : World) (a : Addr) (f : Fn) (x b : Array Value) (m : Mode) : (store a (.func f x b) m).run P w = stored P w a (.func f x b) m := run_store P w a _ m rfl

set_option maxHeartbeats 1000000 in
/-- The closure digit: its captured value is the box of the digest. -/
theorem digit_fn (d : List UInt8) (hd : d.length = 16) (g c : Nat) (hc : c < 32) (w : World) (hb : Blk w g 22 (bs d).toArray) :
    Calls Try.prog 33 #[.int .i64 (c : Int), .pointer (some ⟨g, 0, none⟩)] w fun e w' => e = .returned (.int .i64 (digN d c : Int)) ∧ w = w' := by
  have hcell : w.cell? ⟨g, c / 2, none⟩ = some (Proofs.Ytjdbfedkadoklaa.u8 (d.getD (c / 2) 0)) := by
    rw [hb.cell (c / 2)]
    have hlt : c / 2 < d.length := by omega
    simp [bs, List.getD, hlt]
  obtain ⟨x, hx⟩ : ∃ x, x = d.getD (c / 2) 0 := ⟨_, rfl⟩
  rw [← hx] at hcell
  have hx2 := x.toNat_lt
  obtain ⟨q, hq⟩ : ∃ q, q = c / 2 := ⟨_, rfl⟩
  rw [← hq] at hcell
  have hq1 : (c : Int) / 2 = (q : Int) := by omega
  have hq2 : q < 16 := by omega
  unfold Proofs.Ytjdbfedkadoklaa.u8 at hcell
  by_cases h0 : c % 2 = 0
  · have hm : (c : Int) % 2 = 0 := by omega
    have he : digN d c = x.toNat / 16 := by rw [digN, if_pos h0, hx]
    have HE := Lib.hid he
    clear hb hx he h0 hq
    go_enter Try.func33, Try.ntmps33
    go_wp2_with fail
    go_ret
    exact ⟨by rw [HE.out]; simp, rfl⟩
  · have hm : (c : Int) % 2 = 1 := by omega
    have he : digN d c = x.toNat % 16 := by rw [digN, if_neg h0, hx]
    have HE := Lib.hid he
    clear hb hx he h0 hq
    go_enter Try.func33, Try.ntmps33
    go_wp2_with fail
    go_ret
    exact ⟨by rw [HE.out]; simp, rfl⟩

end Go.Proofs.Ytjdbfedkadoklaa
