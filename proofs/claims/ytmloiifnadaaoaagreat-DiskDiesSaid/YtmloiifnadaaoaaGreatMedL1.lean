/- The laws of package media: Nil, Ops. -/
import Derived.Test.YtmloiifnadaaoaaGreatPlay
namespace Go.Proofs.YtmloiifnadaaoaaGreat
open Go.RowKit
set_option linter.unusedVariables false
set_option linter.unusedSimpArgs false

theorem new_yes {r b t s o : Int} (hv : (Geo.mk r b t s o).ok = true) (w : World) : Calls Tryz.prog 47 #[.agg #[.int .i64 r, .int .i64 b, .int .i64 t, .int .i64 s, .int .i64 o]] w fun e w' =>
    Below w.heap.size w w' ∧ ∃ p q n, e = .returned (.tuple #[.pointer (some ⟨p, 0, none⟩), .int .i64 0]) ∧ w.heap.size ≤ p ∧ w.heap.size ≤ q ∧ IsMed w' p q n (Med.new (Geo.mk r b t s o)) := by
  refine (new_any r b t s o w).mono ?_
  rintro e w' ⟨hb, h | h⟩
  · rw [hv] at h; cases h.1
  · exact ⟨hb, h.2⟩
theorem new_no {r b t s o : Int} (hv : (Geo.mk r b t s o).ok = false) (w : World) : Calls Tryz.prog 47 #[.agg #[.int .i64 r, .int .i64 b, .int .i64 t, .int .i64 s, .int .i64 o]] w fun e w' =>
    e = .returned (.tuple #[.pointer none, .int .i64 1]) ∧ Below w.heap.size w w' := by
  refine (new_any r b t s o w).mono ?_
  rintro e w' ⟨hb, h | h⟩
  · exact ⟨h.2, hb⟩
  · rw [hv] at h; cases h.1
theorem rnew_yes {r b t s o : Int} (hv : (Geo.mk r b t s o).ok = true) (w : World) : Calls Tryz.prog 59 #[.agg #[.int .i64 r, .int .i64 b, .int .i64 t, .int .i64 s, .int .i64 o]] w fun e w' =>
    Below w.heap.size w w' ∧ ∃ p q n, e = .returned (.tuple #[.pointer (some ⟨p, 0, none⟩), .int .i64 0]) ∧ w.heap.size ≤ p ∧ w.heap.size ≤ q ∧ IsRef w' p q n (Med.new (Geo.mk r b t s o)) := by
  refine (rnew_any r b t s o w).mono ?_
  rintro e w' ⟨hb, h | h⟩
  · rw [hv] at h; cases h.1
  · exact ⟨hb, h.2⟩
theorem rnew_no {r b t s o : Int} (hv : (Geo.mk r b t s o).ok = false) (w : World) : Calls Tryz.prog 59 #[.agg #[.int .i64 r, .int .i64 b, .int .i64 t, .int .i64 s, .int .i64 o]] w fun e w' =>
    e = .returned (.tuple #[.pointer none, .int .i64 1]) ∧ Below w.heap.size w w' := by
  refine (rnew_any r b t s o w).mono ?_
  rintro e w' ⟨hb, h | h⟩
  · exact ⟨h.2, hb⟩
  · rw [hv] at h; cases h.1
theorem below_or {q q' : Nat} {w W W' : World} (h : Below w.heap.size w W) (hF : Fr (fun k => k = q ∨ k = q') W W') (hq : w.heap.size ≤ q) (hq' : w.heap.size ≤ q') : Below w.heap.size w W' :=
  h.trans (hF.below h.size (fun k hk e => by rcases e with e | e <;> omega))

end Go.Proofs.YtmloiifnadaaoaaGreat
