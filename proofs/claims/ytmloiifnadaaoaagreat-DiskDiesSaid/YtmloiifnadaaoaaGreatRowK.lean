/- What the rows' proofs share: structs of plain numbers by value, opened; the whole proof of a row out of its walk. -/
import Derived.Test.YtmloiifnadaaoaaGreatRows
import Derived.Test.YtmloiifnadaaoaaGreatBase
import Derived.ProofKit
import Derived.OpenShut
import Derived.ShutString
import Derived.ChangeOld
import Derived.SizedLaws
import Derived.Lib.SmallJoins
import Derived.JoinedOf
import Derived.KernelRfl
namespace Go.Proofs.YtmloiifnadaaoaaGreat
open Go.ChangeShapes Go.WideShapes Go.ChangeAt Go.RowKit
open Go.Joins Go.Deep
set_option linter.unusedVariables false
set_option maxRecDepth 100000

theorem own : ownKnob Tryz.prog.godebug = none := by kernel_rfl
theorem laidOut : laidOutB Tryz.prog = true := by kernel_rfl

section
variable {H : Type} {enc : TypeId × Value → H} {w : World} {base : Nat} {spare : Nat → Bool} {held : Bool} {fuel : Nat} {cs : List Value} {x : DataW H × List MemPlace}

theorem cells1 {t : TypeId} {k : IntKind} (hC : Tryz.prog.underlying t = some (.int k)) (hk : Tryz.prog.cellsOf t = 1) {n : Nat} {y : Option (DataW H × List MemPlace)} {c : Value} {rest : List Value} (hy : y.isSome)
    (h : DataW.trod enc Tryz.prog w base spare held n t (List.take (Tryz.prog.cellsOf t) (c :: rest)) = y) : ∃ a, c = .int k a ∧ (Lit.int k a).wf = true := by
  obtain ⟨z, rfl⟩ := Option.isSome_iff_exists.1 hy
  rw [hk] at h
  obtain ⟨a, h1, _, h2⟩ := DataW.trod_int hC h
  exact ⟨a, by simpa using h1, h2⟩

theorem some_at {xs : List (DataW H × List MemPlace)} {n i : Nat} (h : xs.length = n) (hi : i < n) : xs[i]?.isSome = true := by
  rw [List.getElem?_eq_getElem (by omega)]; rfl

theorem cells_int : Tryz.prog.cellsOf 3 = 1 := by kernel_rfl
theorem cells_geo : Tryz.prog.cellsOf 23 = 5 := by kernel_rfl

/-- A geometry, read. -/
theorem read_geo (h : DataW.trod enc Tryz.prog w base spare held fuel 23 cs = some x) : ∃ r b t s o : Int, cs = [.int .i64 r, .int .i64 b, .int .i64 t, .int .i64 s, .int .i64 o] ∧
    (Lit.int .i64 r).wf = true ∧ (Lit.int .i64 b).wf = true ∧ (Lit.int .i64 t).wf = true ∧ (Lit.int .i64 s).wf = true ∧ (Lit.int .i64 o).wf = true := by
  obtain ⟨xs, n, _, _, hl, hlen, hf⟩ := DataW.trod_struct Tryz.underlying23 h
  rw [cells_geo] at hl
  have hlen' : xs.length = 5 := hlen
  match cs, hl with
  | [c0, c1, c2, c3, c4], _ =>
    obtain ⟨a0, rfl, h0⟩ := cells1 Tryz.underlying3 cells_int (some_at hlen' (by decide)) (hf 0 _ rfl)
    obtain ⟨a1, rfl, h1⟩ := cells1 Tryz.underlying3 cells_int (some_at hlen' (by decide)) (hf 1 _ rfl)
    obtain ⟨a2, rfl, h2⟩ := cells1 Tryz.underlying3 cells_int (some_at hlen' (by decide)) (hf 2 _ rfl)
    obtain ⟨a3, rfl, h3⟩ := cells1 Tryz.underlying3 cells_int (some_at hlen' (by decide)) (hf 3 _ rfl)
    obtain ⟨a4, rfl, h4⟩ := cells1 Tryz.underlying3 cells_int (some_at hlen' (by decide)) (hf 4 _ rfl)
    exact ⟨a0, a1, a2, a3, a4, rfl, h0, h1, h2, h3, h4⟩
end

/-- A struct parameter of n cells: its cells are what is read. -/
theorem agg_of {r : Reach} {b0 : Nat} {w : World} {t : TypeId} {fs : Array Field} {v : Value} (hs : Tryz.prog.underlying t = some (.struct fs)) (hv : Value.okWide Tryz.prog w r b0 t v) : v = .agg v.cells := by
  obtain ⟨cs, rfl, _⟩ := okWide_struct hs hv
  rfl
theorem agg_eq {v : Value} {l : List Value} (h : v = .agg v.cells) (hl : v.cells.toList = l) : v = .agg l.toArray := by rw [h, ← hl]

theorem open_geo {H : Type} {enc : TypeId × Value → H} {w : World} {base : Nat} {spare : Nat → Bool} {held : Bool} {r : Reach} {b0 : Nat} {v : Value} {d : DataW H} {p : List MemPlace}
    (hv : Value.okWide Tryz.prog w r b0 23 v) (h : DataW.Trod enc Tryz.prog w base spare held 23 v d p) :
    ∃ a0 a1 a2 a3 a4 : Int, v = .agg #[.int .i64 a0, .int .i64 a1, .int .i64 a2, .int .i64 a3, .int .i64 a4] ∧
    (Lit.int .i64 a0).wf = true ∧ (Lit.int .i64 a1).wf = true ∧ (Lit.int .i64 a2).wf = true ∧ (Lit.int .i64 a3).wf = true ∧ (Lit.int .i64 a4).wf = true := by
  have he := agg_of Tryz.underlying23 hv
  obtain ⟨fuel, hf⟩ := h
  obtain ⟨a0, a1, a2, a3, a4, hcs, hw⟩ := read_geo hf
  exact ⟨a0, a1, a2, a3, a4, agg_eq he hcs, hw⟩

end Go.Proofs.YtmloiifnadaaoaaGreat
/- Closed facts on the loaded program that every row's proof wants; the label is read off a list of numbers, for its length. -/
namespace Go.Proofs.YtmloiifnadaaoaaGreat
set_option maxRecDepth 100000

def labelNats : List Nat := [104, 97, 114, 110, 101, 115, 115, 32, 57, 49, 99, 50, 99, 100, 52, 49, 52, 97, 52, 55, 99, 51, 51, 53, 52, 99, 54, 100, 49, 55, 51, 53, 100, 54, 55, 100, 98, 102, 51, 97, 57, 52, 99, 52, 57, 57, 101, 98, 101, 53, 98, 50, 97, 99, 98, 98, 98, 51, 48, 54, 102, 55, 51, 48, 97, 97, 51, 102, 99, 55, 57, 55, 32, 99, 117, 116, 32, 97, 116, 32, 116, 101, 103, 117, 108, 97, 47, 116, 101, 103, 117, 108, 97, 108, 97, 119, 49, 52, 46, 68, 105, 115, 107, 68, 105, 101, 115]
theorem label_eq : Tryz.prog.initOrder = String.ofList (labelNats.map Char.ofNat) := by kernel_rfl
theorem label_list : Tryz.prog.initOrder.toList = labelNats.map Char.ofNat := by rw [label_eq, String.toList_ofList]
/-- The label's words behind the harness's own. -/
def labelWords : List (List Char) := behindMainWord (wordsSigns (labelNats.map Char.ofNat))
theorem labelWords_at : labelWords = "cut".toList :: labelWords.tail := by
  have h : labelWords.head? = some "cut".toList := by kernel_rfl
  cases hl : labelWords with
  | nil => rw [hl] at h; cases h
  | cons a l => rw [hl] at h; simp only [List.head?_cons, Option.some.injEq] at h; rw [h]; rfl
theorem label_words : behindMainWord (wordsSigns Tryz.prog.initOrder.toList) = "cut".toList :: labelWords.tail := by
  rw [label_list]; exact labelWords_at
theorem strip_cut (l : List (List Char)) : stripLifts liftWords ("cut".toList :: l) = ([], "cut".toList :: l) := by kernel_rfl
theorem headLifts_of (P : Program) (l : List (List Char)) (h : behindMainWord (wordsSigns P.initOrder.toList) = "cut".toList :: l) : P.headLifts = [] := by
  unfold Program.headLifts; rw [h, strip_cut]; rfl
theorem mayEnter_of (P : Program) (l : List (List Char)) (h : behindMainWord (wordsSigns P.initOrder.toList) = "cut".toList :: l) (h1 : P.laysLater = false) (h2 : P.bearsReflect = false) (h3 : P.doorFits [] = true) : P.mayEnter = true := by
  unfold Program.mayEnter
  rw [h]
  simp only [strip_cut, h1, h2, h3]
  simp
theorem liftsFinal_of (P : Program) (l : List (List Char)) (h : behindMainWord (wordsSigns P.initOrder.toList) = "cut".toList :: l) : P.liftsFinal = false := by
  unfold Program.liftsFinal
  simp only [headLifts_of P l h, h]
  simp
theorem make_of (P : Program) (l : List (List Char)) (h : behindMainWord (wordsSigns P.initOrder.toList) = "cut".toList :: l) : P.make = some .cut := by
  unfold Program.make
  simp only [h]
  simp
theorem laysLater_ok : Tryz.prog.laysLater = false := by kernel_rfl
theorem bearsReflect_ok : Tryz.prog.bearsReflect = false := by kernel_rfl
theorem doorFits_ok : Tryz.prog.doorFits [] = true := by kernel_rfl
theorem mayEnter_ok : Tryz.prog.mayEnter = true := mayEnter_of _ _ label_words laysLater_ok bearsReflect_ok doorFits_ok
theorem liftsFinal_ok : Tryz.prog.liftsFinal = false := liftsFinal_of _ _ label_words
theorem make_ok : Tryz.prog.make = some .cut := make_of _ _ label_words
end Go.Proofs.YtmloiifnadaaoaaGreat
