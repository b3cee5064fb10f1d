/- Acts on disks, and cases (tegulalaw14.Act, Case) as arguments. -/
import Derived.Test.YtmloiifnadaaoaaFltH
namespace Go.Proofs.Ytmloiifnadaaoaa
open Go.RowKit
set_option linter.unusedVariables false

structure Act where
  disk : UInt8
  kind : UInt8
  key : Int
  at_ : Int
  bs : List UInt8
  force : Bool
def ActB (w : World) (B : Nat) (g off : Nat) (a : Act) : Prop :=
  ∃ A c, w.cell? ⟨g, off, none⟩ = some (.int .u8 (a.disk.toNat : Int)) ∧ w.cell? ⟨g, off + 1, none⟩ = some (.int .u8 (a.kind.toNat : Int)) ∧ w.cell? ⟨g, off + 2, none⟩ = some (.int .u64 a.key) ∧
    w.cell? ⟨g, off + 3, none⟩ = some (.int .i64 a.at_) ∧ w.cell? ⟨g, off + 4, none⟩ = some (.slice A a.bs.length c) ∧ w.cell? ⟨g, off + 5, none⟩ = some (.bool a.force) ∧ BytesB w B A a.bs
def ActsB (w : World) (B : Nat) (A : Option Addr) (l : List Act) : Prop :=
  l = [] ∨ ∃ g off, A = some ⟨g, off, none⟩ ∧ g < B ∧ ∀ i a, l[i]? = some a → ActB w B g (off + i * 6) a
theorem ActB.below {w w' : World} {B g off : Nat} {a : Act} (hg : g < B) (h : ActB w B g off a) (hb : Below B w w') : ActB w' B g off a := by
  obtain ⟨A, c, h0, h1, h2, h3, h4, h5, h6⟩ := h
  exact ⟨A, c, (hb.cell (p := ⟨g, off, none⟩) hg).trans h0, (hb.cell (p := ⟨g, off + 1, none⟩) hg).trans h1, (hb.cell (p := ⟨g, off + 2, none⟩) hg).trans h2, (hb.cell (p := ⟨g, off + 3, none⟩) hg).trans h3,
    (hb.cell (p := ⟨g, off + 4, none⟩) hg).trans h4, (hb.cell (p := ⟨g, off + 5, none⟩) hg).trans h5, h6.below hb⟩
theorem ActsB.below {w w' : World} {B : Nat} {A : Option Addr} {l : List Act} (h : ActsB w B A l) (hb : Below B w w') : ActsB w' B A l :=
  h.imp id (fun ⟨g, off, h1, h2, h3⟩ => ⟨g, off, h1, h2, fun i o ho => (h3 i o ho).below h2 hb⟩)
end Go.Proofs.Ytmloiifnadaaoaa
