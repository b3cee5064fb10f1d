/- Faults as arguments, and which lists of them are valid. -/
import Derived.Test.YtmloiifnadaaoaaGreatOpsH
namespace Go.Proofs.YtmloiifnadaaoaaGreat
open Go.RowKit
set_option linter.unusedVariables false

structure Flt where
  at_ : Int
  kind : Int
  to : Int
/-- A fault's cells. -/
def FltB (w : World) (g off : Nat) (f : Flt) : Prop :=
  w.cell? ⟨g, off, none⟩ = some (.int .i64 f.at_) ∧ w.cell? ⟨g, off + 1, none⟩ = some (.int .i64 f.kind) ∧ w.cell? ⟨g, off + 2, none⟩ = some (.int .i64 f.to)
/-- The cells behind A read as the faults l. -/
def FltsRd (w : World) (A : Option Addr) (l : List Flt) : Prop :=
  l = [] ∨ ∃ g off, A = some ⟨g, off, none⟩ ∧ g < w.heap.size ∧ ∀ i f, l[i]? = some f → FltB w g (off + i * 3) f
theorem FltsRd.belowB {w w' : World} {B : Nat} {A : Option Addr} {l : List Flt} (h : FltsRd w A l) (hB : w.heap.size ≤ B) (hb : Below B w w') (hz : w.heap.size ≤ w'.heap.size) : FltsRd w' A l := by
  refine h.imp id ?_
  rintro ⟨g, off, h1, h2, h3⟩
  refine ⟨g, off, h1, by omega, fun i f hf => ?_⟩
  obtain ⟨k1, k2, k3⟩ := h3 i f hf
  exact ⟨(hb.cell (p := ⟨g, off + i * 3, none⟩) (by simp only; omega)).trans k1, (hb.cell (p := ⟨g, off + i * 3 + 1, none⟩) (by simp only; omega)).trans k2, (hb.cell (p := ⟨g, off + i * 3 + 2, none⟩) (by simp only; omega)).trans k3⟩
theorem FltsRd.below {w w' : World} {A : Option Addr} {l : List Flt} (h : FltsRd w A l) (hb : Below w.heap.size w w') : FltsRd w' A l := h.belowB (Nat.le_refl _) hb hb.size
def fltVals (l : List Flt) : List Value := l.flatMap fun f => [.int .i64 f.at_, .int .i64 f.kind, .int .i64 f.to]
theorem fltVals_len (l : List Flt) : (fltVals l).length = l.length * 3 := by
  unfold fltVals
  induction l with
  | nil => rfl
  | cons f l ih => simp only [List.flatMap_cons, List.length_append, List.length_cons, List.length_nil] at ih ⊢; omega
theorem fltVals_one (l : List Flt) : ∀ u ∈ fltVals l, u.oneCell' = true := by
  intro u hu
  unfold fltVals at hu
  obtain ⟨f, _, hf⟩ := List.mem_flatMap.1 hu
  simp at hf
  rcases hf with rfl | rfl | rfl <;> rfl
theorem fltVals_get {l : List Flt} {i : Nat} {f : Flt} (h : l[i]? = some f) : (fltVals l)[i * 3]? = some (.int .i64 f.at_) ∧ (fltVals l)[i * 3 + 1]? = some (.int .i64 f.kind) ∧ (fltVals l)[i * 3 + 2]? = some (.int .i64 f.to) := by
  unfold fltVals
  induction l generalizing i with
  | nil => simp at h
  | cons g l ih =>
    cases i with
    | zero => simp at h; subst h; exact ⟨rfl, rfl, rfl⟩
    | succ i =>
      have h' : l[i]? = some f := by simpa using h
      obtain ⟨h1, h2, h3⟩ := ih h'
      have e1 : (i + 1) * 3 = i * 3 + 1 + 1 + 1 := by omega
      have e2 : (i + 1) * 3 + 1 = (i * 3 + 1) + 1 + 1 + 1 := by omega
      have e3 : (i + 1) * 3 + 2 = (i * 3 + 2) + 1 + 1 + 1 := by omega
      rw [List.flatMap_cons, e2, e3, e1]
      exact ⟨h1, h2, h3⟩
theorem FltsRd.cells {w : World} {A : Option Addr} {l : List Flt} (h : FltsRd w A l) : CellsRd w A (fltVals l) := by
  intro a ha j u hu
  have hlt := (List.getElem?_eq_some_iff.1 hu).1
  rw [fltVals_len] at hlt
  rcases h with rfl | ⟨g, off, h1, _, h2⟩
  · simp at hlt
  · rw [ha] at h1
    obtain rfl := Option.some.inj h1
    have hi : j / 3 < l.length := by omega
    obtain ⟨k1, k2, k3⟩ := h2 (j / 3) _ (List.getElem?_eq_getElem hi)
    obtain ⟨e1, e2, e3⟩ := fltVals_get (List.getElem?_eq_getElem hi)
    rw [Addr.add_lit]
    have hj : j = j / 3 * 3 ∨ j = j / 3 * 3 + 1 ∨ j = j / 3 * 3 + 2 := by omega
    generalize j / 3 = i at *
    rcases hj with rfl | rfl | rfl
    · rw [e1] at hu; rw [k1]; exact hu
    · rw [e2] at hu; rw [← Nat.add_assoc, k2]; exact hu
    · rw [e3] at hu; rw [← Nat.add_assoc, k3]; exact hu
theorem FltsRd.nil {w : World} {A : Option Addr} {l : List Flt} (h : FltsRd w A l) : A = none → l.length = 0 := by
  rintro rfl
  rcases h with rfl | ⟨g, off, h1, _⟩
  · rfl
  · cases h1
/-- Is the fault right, behind one at last? -/
def Flt.ok (last : Int) (f : Flt) : Bool := decide (last < f.at_ ∧ 1 ≤ f.kind ∧ f.kind ≤ 7 ∧ 0 ≤ f.to ∧ (f.to = 0 ∨ f.kind = 3 ∨ f.kind = 5))
def fltsOk : Int → List Flt → Bool
  | _, [] => true
  | last, f :: l => f.ok last && fltsOk f.at_ l
/-- The last fault's number. -/
def fltLast (l : List Flt) : Int := l.foldl (fun _ f => f.at_) (-1)
theorem fltLast_snoc (l : List Flt) (f : Flt) : fltLast (l ++ [f]) = f.at_ := by unfold fltLast; rw [List.foldl_append]; rfl
theorem fltsOk_append (last : Int) (l k : List Flt) : fltsOk last (l ++ k) = (fltsOk last l && fltsOk (l.foldl (fun _ f => f.at_) last) k) := by
  induction l generalizing last with
  | nil => simp [fltsOk]
  | cons f l ih => simp only [List.cons_append, fltsOk, List.foldl_cons, ih, Bool.and_assoc]
def fltValid (l : List Flt) : Bool := fltsOk (-1) l
theorem fltValid_snoc (l : List Flt) (f : Flt) : fltValid (l ++ [f]) = (fltValid l && f.ok (fltLast l)) := by
  unfold fltValid fltLast
  rw [fltsOk_append]
  simp [fltsOk]
theorem fltValid_take {l : List Flt} (h : fltValid l = true) (n : Nat) : fltValid (l.take n) = true := by
  have e : l.take n ++ l.drop n = l := List.take_append_drop n l
  rw [← e] at h
  unfold fltValid at *
  rw [fltsOk_append] at h
  exact (Bool.and_eq_true_iff.1 h).1
/-- The fault of an operation. -/
def fltAt (l : List Flt) (n : Int) : Flt := (l.find? (fun f => decide (f.at_ = n))).getD ⟨0, 0, 0⟩
end Go.Proofs.YtmloiifnadaaoaaGreat
/- Acts on disks, and cases (tegulalaw14.Act, Case) as arguments. -/
namespace Go.Proofs.YtmloiifnadaaoaaGreat
open Go.RowKit
set_option linter.unusedVariables false

structure Act where
  disk : UInt8
  kind : UInt8
  key : Int
  at_ : Int
  bs : List UInt8
  force : Bool
def ActB (w : World) (B : Nat) (g off : Nat) (a : Act) : Prop :=
  ∃ A c, w.cell? ⟨g, off, none⟩ = some (.int .u8 (a.disk.toNat : Int)) ∧ w.cell? ⟨g, off + 1, none⟩ = some (.int .u8 (a.kind.toNat : Int)) ∧ w.cell? ⟨g, off + 2, none⟩ = some (.int .u64 a.key) ∧
    w.cell? ⟨g, off + 3, none⟩ = some (.int .i64 a.at_) ∧ w.cell? ⟨g, off + 4, none⟩ = some (.slice A a.bs.length c) ∧ w.cell? ⟨g, off + 5, none⟩ = some (.bool a.force) ∧ BytesB w B A a.bs ∧ a.bs.length ≤ c
def ActsB (w : World) (B : Nat) (A : Option Addr) (l : List Act) : Prop :=
  l = [] ∨ ∃ g off, A = some ⟨g, off, none⟩ ∧ g < B ∧ ∀ i a, l[i]? = some a → ActB w B g (off + i * 6) a
theorem ActB.below {w w' : World} {B g off : Nat} {a : Act} (hg : g < B) (h : ActB w B g off a) (hb : Below B w w') : ActB w' B g off a := by
  obtain ⟨A, c, h0, h1, h2, h3, h4, h5, h6, h7⟩ := h
  exact ⟨A, c, (hb.cell (p := ⟨g, off, none⟩) hg).trans h0, (hb.cell (p := ⟨g, off + 1, none⟩) hg).trans h1, (hb.cell (p := ⟨g, off + 2, none⟩) hg).trans h2, (hb.cell (p := ⟨g, off + 3, none⟩) hg).trans h3,
    (hb.cell (p := ⟨g, off + 4, none⟩) hg).trans h4, (hb.cell (p := ⟨g, off + 5, none⟩) hg).trans h5, h6.below hb, h7⟩
theorem ActsB.below {w w' : World} {B : Nat} {A : Option Addr} {l : List Act} (h : ActsB w B A l) (hb : Below B w w') : ActsB w' B A l :=
  h.imp id (fun ⟨g, off, h1, h2, h3⟩ => ⟨g, off, h1, h2, fun i o ho => (h3 i o ho).below h2 hb⟩)
end Go.Proofs.YtmloiifnadaaoaaGreat
