/- OnetimeParts: the walk over whatever comes in. No condition. -/
import Derived.Test.YtjdbfedkadoklaaOtP
import Derived.Test.YtjdbfedkadoklaaOpenB
namespace Go.Proofs.Ytjdbfedkadoklaa
set_option linter.unusedVariables false
set_option linter.unusedSimpArgs false
open Go.RowKit
theorem wf_nat {k : IntKind} {z : Int} (m : Nat) (hk : (k = .u8 ∧ m = 256) ∨ (k = .u16 ∧ m = 65536)) (h : (Lit.int k z).wf = true) : ∃ n : Nat, z = (n : Int) ∧ n < m := by
  have h2 : 0 ≤ z ∧ z < m := by
    rcases hk with ⟨rfl, rfl⟩ | ⟨rfl, rfl⟩
    · have := bounds_u8 h; omega
    · have := bounds_u16 h; omega
  obtain ⟨n, rfl⟩ := Int.eq_ofNat_of_zero_le h2.1
  exact ⟨n, rfl, by omega⟩
theorem parts_walkL (pl st : List Int) (v : By 16) (w : World) (hp : pl.length = 2) (hp' : ∀ z ∈ pl, (Lit.int .u16 z).wf = true) (hs : st.length = 3) (hs' : ∀ z ∈ st, (Lit.int .u8 z).wf = true) :
    Calls Try.prog 7 #[.agg (pl.map (Value.int .u16)).toArray, .agg (st.map (Value.int .u8)).toArray, .agg (bs v.1).toArray] w fun e w' => e = .returned (.bool true) ∧ Below w.heap.size w w' := by
  obtain ⟨p, q, rfl⟩ := two_of hp
  obtain ⟨a, b, c, rfl⟩ := three_of hs
  obtain ⟨p, rfl, h1⟩ := wf_nat 65536 (.inr ⟨rfl, rfl⟩) (hp' p (by simp))
  obtain ⟨q, rfl, h2⟩ := wf_nat 65536 (.inr ⟨rfl, rfl⟩) (hp' q (by simp))
  obtain ⟨a, rfl, h3⟩ := wf_nat 256 (.inl ⟨rfl, rfl⟩) (hs' a (by simp))
  obtain ⟨b, rfl, h4⟩ := wf_nat 256 (.inl ⟨rfl, rfl⟩) (hs' b (by simp))
  obtain ⟨c, rfl, h5⟩ := wf_nat 256 (.inl ⟨rfl, rfl⟩) (hs' c (by simp))
  exact parts_walk p q a b c h1 h2 h3 h4 h5 v w
end Go.Proofs.Ytjdbfedkadoklaa
