/- Steps of a cache (tegulalaw12.Step) as arguments, and what they do to a cache. -/
import Derived.Test.YtmloiifnadaaoaaGreatCchH
namespace Go.Proofs.YtmloiifnadaaoaaGreat
open Go.RowKit
set_option linter.unusedVariables false

/-- A step: kind 0 an operation, 1 a flush, 2 a cut, else the use of a clone. -/
structure Stp where
  kind : UInt8
  op : Opn
  keep : Int
/-- A step's cells, from an address on, below block B. -/
def StpB (w : World) (B : Nat) (g off : Nat) (s : Stp) : Prop :=
  w.cell? ⟨g, off, none⟩ = some (.int .u8 (s.kind.toNat : Int)) ∧ OpB w B g (off + 1) s.op ∧ w.cell? ⟨g, off + 4, none⟩ = some (.int .i64 s.keep)
def StpsB (w : World) (B : Nat) (A : Option Addr) (l : List Stp) : Prop :=
  l = [] ∨ ∃ g off, A = some ⟨g, off, none⟩ ∧ g < B ∧ ∀ i s, l[i]? = some s → StpB w B g (off + i * 5) s
theorem StpB.below {w w' : World} {B g off : Nat} {s : Stp} (hg : g < B) (h : StpB w B g off s) (hb : Below B w w') : StpB w' B g off s :=
  ⟨(hb.cell (p := ⟨g, off, none⟩) hg).trans h.1, h.2.1.below hg hb, (hb.cell (p := ⟨g, off + 4, none⟩) hg).trans h.2.2⟩
theorem StpsB.below {w w' : World} {B : Nat} {A : Option Addr} {l : List Stp} (h : StpsB w B A l) (hb : Below B w w') : StpsB w' B A l :=
  h.imp id (fun ⟨g, off, h1, h2, h3⟩ => ⟨g, off, h1, h2, fun i o ho => (h3 i o ho).below h2 hb⟩)

/-- A cache: the medium and the pending operations. -/
structure Cch where
  d : Med
  l : List Opn
def Cch.cut (x : Cch) (k : Int) : Cch := ⟨x.d.ops (x.l.take (keepN k x.l)), []⟩
def Cch.flush (x : Cch) : Cch := ⟨x.d.ops x.l, []⟩
def Cch.put (x : Cch) (o : Opn) : Cch := ⟨x.d, push x.d x.l o⟩
def Cch.step (x : Cch) (s : Stp) : Cch := if s.kind = 0 then x.put s.op else if s.kind = 1 then x.flush else if s.kind = 2 then x.cut s.keep else x
def Cch.steps (x : Cch) (l : List Stp) : Cch := l.foldl Cch.step x
theorem Cch.steps_snoc (x : Cch) (l : List Stp) (s : Stp) : x.steps (l ++ [s]) = (x.steps l).step s := by unfold Cch.steps; rw [List.foldl_append]; rfl
theorem Cch.step_len (x : Cch) (s : Stp) : (x.step s).l.length ≤ x.l.length + 1 := by
  unfold Cch.step
  split
  · exact push_len _ _ _
  · split
    · simp [Cch.flush]
    · split
      · simp [Cch.cut]
      · omega
theorem Cch.steps_len (x : Cch) (l : List Stp) : (x.steps l).l.length ≤ x.l.length + l.length := by
  unfold Cch.steps
  induction l generalizing x with
  | nil => simp
  | cons s l ih =>
    rw [List.foldl_cons]
    have h1 := ih (x.step s)
    have h2 := x.step_len s
    simp only [List.length_cons]
    omega
theorem Cch.flush_cut (x : Cch) : x.flush = x.cut (x.l.length : Int) := by
  unfold Cch.flush Cch.cut keepN
  rw [Int.toNat_natCast, Nat.min_self, List.take_length]
end Go.Proofs.YtmloiifnadaaoaaGreat
