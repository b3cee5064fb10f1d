/- What the work of an operation returns. -/
import Derived.Test.YtmloiifnadaaoaaDskW4
namespace Go.Proofs.Ytmloiifnadaaoaa
open Go.RowKit
/-- What a work returns: a number, with R. -/
def WorkIs (R : Int → World → Prop) (e : Ending) (w' : World) : Prop := ∃ x, e = .returned (.int .i64 x) ∧ R x w'
theorem work_at {G : Nat → Prop} {pd pp : Nat} {D : Dsk} {P : Pow} {n : Nat} {args : Array Value} {R : Int → World → Prop} {w w1 : World} (hw : ∀ w1, IsDisk w1 G pd pp D → IsPow w1 G pp P → FrG G diskTs w w1 → Calls Try.prog n args w1 (WorkIs R)) (h : IsDisk w1 G pd pp D ∧ IsPow w1 G pp P ∧ FrG G diskTs w w1) : Calls Try.prog n args w1 (WorkIs R) := hw w1 h.1 h.2.1 h.2.2
end Go.Proofs.Ytmloiifnadaaoaa
