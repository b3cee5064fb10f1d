/- What the rows' proofs share: structs of plain numbers by value, opened; the whole proof of a row out of its walk. -/
import Derived.Test.YtmloiifnadaaoaaRows
import Derived.Test.YtmloiifnadaaoaaBase
import Derived.ProofKit
import Derived.OpenShut
import Derived.ShutString
import Derived.ChangeOld
import Derived.SizedLaws
import Derived.Lib.SmallJoins
namespace Go.Proofs.Ytmloiifnadaaoaa
open Go.ChangeShapes Go.WideShapes Go.ChangeAt Go.RowKit
open Go.Joins Go.Deep
set_option linter.unusedVariables false
set_option maxRecDepth 100000

theorem own : ownKnob Try.prog.godebug = none := by kernel_rfl
theorem laidOut : laidOutB Try.prog = true := by kernel_rfl

section
variable {H : Type} {enc : TypeId × Value → H} {w : World} {base : Nat} {spare : Nat → Bool} {held : Bool} {fuel : Nat} {cs : List Value} {x : DataW H × List MemPlace}

theorem cells1 {t : TypeId} {k : IntKind} (hC : Try.prog.underlying t = some (.int k)) (hk : Try.prog.cellsOf t = 1) {n : Nat} {y : Option (DataW H × List MemPlace)} {c : Value} {rest : List Value} (hy : y.isSome)
    (h : DataW.trod enc Try.prog w base spare held n t (List.take (Try.prog.cellsOf t) (c :: rest)) = y) : ∃ a, c = .int k a ∧ (Lit.int k a).wf = true := by
  obtain ⟨z, rfl⟩ := Option.isSome_iff_exists.1 hy
  rw [hk] at h
  obtain ⟨a, h1, _, h2⟩ := DataW.trod_int hC h
  exact ⟨a, by simpa using h1, h2⟩

theorem some_at {xs : List (DataW H × List MemPlace)} {n i : Nat} (h : xs.length = n) (hi : i < n) : xs[i]?.isSome = true := by
  rw [List.getElem?_eq_getElem (by omega)]; rfl

theorem cells_int : Try.prog.cellsOf 3 = 1 := by kernel_rfl
theorem cells_geo : Try.prog.cellsOf 23 = 5 := by kernel_rfl

/-- A geometry, read. -/
theorem read_geo (h : DataW.trod enc Try.prog w base spare held fuel 23 cs = some x) : ∃ r b t s o : Int, cs = [.int .i64 r, .int .i64 b, .int .i64 t, .int .i64 s, .int .i64 o] ∧
    (Lit.int .i64 r).wf = true ∧ (Lit.int .i64 b).wf = true ∧ (Lit.int .i64 t).wf = true ∧ (Lit.int .i64 s).wf = true ∧ (Lit.int .i64 o).wf = true := by
  obtain ⟨xs, n, _, _, hl, hlen, hf⟩ := DataW.trod_struct Try.underlying23 h
  rw [cells_geo] at hl
  have hlen' : xs.length = 5 := hlen
  match cs, hl with
  | [c0, c1, c2, c3, c4], _ =>
    obtain ⟨a0, rfl, h0⟩ := cells1 Try.underlying3 cells_int (some_at hlen' (by decide)) (hf 0 _ rfl)
    obtain ⟨a1, rfl, h1⟩ := cells1 Try.underlying3 cells_int (some_at hlen' (by decide)) (hf 1 _ rfl)
    obtain ⟨a2, rfl, h2⟩ := cells1 Try.underlying3 cells_int (some_at hlen' (by decide)) (hf 2 _ rfl)
    obtain ⟨a3, rfl, h3⟩ := cells1 Try.underlying3 cells_int (some_at hlen' (by decide)) (hf 3 _ rfl)
    obtain ⟨a4, rfl, h4⟩ := cells1 Try.underlying3 cells_int (some_at hlen' (by decide)) (hf 4 _ rfl)
    exact ⟨a0, a1, a2, a3, a4, rfl, h0, h1, h2, h3, h4⟩
end

/-- A struct parameter of n cells: its cells are what is read. -/
theorem agg_of {r : Reach} {b0 : Nat} {w : World} {t : TypeId} {fs : Array Field} {v : Value} (hs : Try.prog.underlying t = some (.struct fs)) (hv : Value.okWide Try.prog w r b0 t v) : v = .agg v.cells := by
  obtain ⟨cs, rfl, _⟩ := okWide_struct hs hv
  rfl
theorem agg_eq {v : Value} {l : List Value} (h : v = .agg v.cells) (hl : v.cells.toList = l) : v = .agg l.toArray := by rw [h, ← hl]

theorem open_geo {H : Type} {enc : TypeId × Value → H} {w : World} {base : Nat} {spare : Nat → Bool} {held : Bool} {r : Reach} {b0 : Nat} {v : Value} {d : DataW H} {p : List MemPlace}
    (hv : Value.okWide Try.prog w r b0 23 v) (h : DataW.Trod enc Try.prog w base spare held 23 v d p) :
    ∃ a0 a1 a2 a3 a4 : Int, v = .agg #[.int .i64 a0, .int .i64 a1, .int .i64 a2, .int .i64 a3, .int .i64 a4] ∧
    (Lit.int .i64 a0).wf = true ∧ (Lit.int .i64 a1).wf = true ∧ (Lit.int .i64 a2).wf = true ∧ (Lit.int .i64 a3).wf = true ∧ (Lit.int .i64 a4).wf = true := by
  have he := agg_of Try.underlying23 hv
  obtain ⟨fuel, hf⟩ := h
  obtain ⟨a0, a1, a2, a3, a4, hcs, hw⟩ := read_geo hf
  exact ⟨a0, a1, a2, a3, a4, agg_eq he hcs, hw⟩

/-- An array of three ints by value. -/
theorem open_int3 {H : Type} {enc : TypeId × Value → H} {w : World} {base : Nat} {spare : Nat → Bool} {held : Bool} {r : Reach} {b0 : Nat} {v : Value} {d : DataW H} {p : List MemPlace}
    (hv : Value.okWide Try.prog w r b0 34 v) (h : DataW.Trod enc Try.prog w base spare held 34 v d p) :
    ∃ a0 a1 a2 : Int, v = .agg #[.int .i64 a0, .int .i64 a1, .int .i64 a2] := by
  have hu : Try.prog.underlying 34 = some (.array 3 3) := Try.underlying34
  have hs : ∃ cs, v = .agg cs := by
    unfold Value.okWide at hv
    rw [hu] at hv
    obtain ⟨cs, h1, _⟩ := hv
    exact ⟨cs, h1⟩
  obtain ⟨cs, rfl⟩ := hs
  obtain ⟨fuel, hf⟩ := h
  obtain ⟨xs, n, _, _, hl, hlen, hf⟩ := DataW.trod_array hu hf
  have hC : Try.prog.cellsOf 34 = 3 := by kernel_rfl
  rw [hC] at hl
  obtain ⟨l⟩ := cs
  match l, hl with
  | [c0, c1, c2], _ =>
    have g0 := hf 0 (by decide)
    have g1 := hf 1 (by decide)
    have g2 := hf 2 (by decide)
    rw [cells_int] at g0 g1 g2
    obtain ⟨y0, e0⟩ := Option.isSome_iff_exists.1 (some_at hlen (show 0 < 3 by decide))
    obtain ⟨y1, e1⟩ := Option.isSome_iff_exists.1 (some_at hlen (show 1 < 3 by decide))
    obtain ⟨y2, e2⟩ := Option.isSome_iff_exists.1 (some_at hlen (show 2 < 3 by decide))
    rw [e0] at g0
    rw [e1] at g1
    rw [e2] at g2
    obtain ⟨a0, h0, _⟩ := DataW.trod_int Try.underlying3 g0
    obtain ⟨a1, h1, _⟩ := DataW.trod_int Try.underlying3 g1
    obtain ⟨a2, h2, _⟩ := DataW.trod_int Try.underlying3 g2
    simp [Value.cells] at h0 h1 h2
    exact ⟨a0, a1, a2, by rw [h0, h1, h2]⟩
end Go.Proofs.Ytmloiifnadaaoaa
