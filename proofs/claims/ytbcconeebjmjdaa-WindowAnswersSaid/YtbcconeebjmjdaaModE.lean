/- Chapter 36: the law's model: do, whole. No condition beyond the lengths that are named. -/
import Derived.Test.YtbcconeebjmjdaaModC
import Derived.Test.YtbcconeebjmjdaaModD
namespace Go.Proofs.Ytbcconeebjmjdaa
open Go.RowKit

theorem mdo_any (m : Win) (v : Value) (o : OpM) (w : World) (hs : Sl w 72 34 v m.l.length (offsC m.l)) (hi : Inv m) (hl : m.l.length ≤ 10000) :
    Calls Try.prog 33 #[mdV m v, opV o] w (DoPost m o w) := by
  by_cases h2 : o.kind.toNat % 5 = 2
  · exact mdo_settled m v o w hs hi hl h2
  · by_cases h3 : o.kind.toNat % 5 = 3
    · exact mdo_drop m v o w hs hi hl h3
    · exact mdo_rest m v o w hs hi hl h2 h3
end Go.Proofs.Ytbcconeebjmjdaa
