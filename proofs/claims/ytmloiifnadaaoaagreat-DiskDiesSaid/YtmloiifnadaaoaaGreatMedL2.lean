/- The law MediaClone. -/
import Derived.Test.YtmloiifnadaaoaaGreatMedL1
namespace Go.Proofs.YtmloiifnadaaoaaGreat
open Go.RowKit
set_option linter.unusedVariables false
set_option linter.unusedSimpArgs false

theorem pair_keep {w w' : World} {p q cap p' q' cap' p2 q2 cap2 p3 q3 cap3 : Nat} {m m2 : Med} (hM : IsMed w p q cap m) (hR : IsRef w p' q' cap' m) (hC : IsMed w p2 q2 cap2 m2) (hD : IsRef w p3 q3 cap3 m2) (h1 : q ≠ q2) (h2 : q' ≠ q3)
    (hF : Fr (fun k => k = q2 ∨ k = q3) w w') : IsMed w' p q cap m ∧ IsRef w' p' q' cap' m := by
  have a1 : p ≠ q2 := hM.hasP.ne hC.hasQ (by decide)
  have a2 : p ≠ q3 := hM.hasP.ne hD.hasQ (by decide)
  have a3 : q ≠ q3 := hM.hasQ.ne hD.hasQ (by decide)
  have a4 : p' ≠ q2 := hR.hasP.ne hC.hasQ (by decide)
  have a5 : p' ≠ q3 := hR.hasP.ne hD.hasQ (by decide)
  have a6 : q' ≠ q2 := hR.hasQ.ne hC.hasQ (by decide)
  refine ⟨hM.keep hF (fun e => by omega) (fun e => by omega) (fun k e hh => ?_), hR.keep hF (fun e => by omega) (fun e => by omega)⟩
  rcases e with rfl | rfl
  · exact hh.ne hC.hasQ (by decide) rfl
  · exact hh.ne hD.hasQ (by decide) rfl

end Go.Proofs.YtmloiifnadaaoaaGreat
