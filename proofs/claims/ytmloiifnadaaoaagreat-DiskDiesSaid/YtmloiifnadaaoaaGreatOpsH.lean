/- Operations (writes and erasures) as arguments: how lists of them lie in memory; the walks of do, Do, Short. -/
import Derived.Test.YtmloiifnadaaoaaGreatRefW
namespace Go.Proofs.YtmloiifnadaaoaaGreat
open Go.RowKit
set_option linter.unusedVariables false
set_option linter.unusedSimpArgs false

/-- An operation: an erasure of the band at, or a write of bs to the sector at. -/
structure Opn where
  er : Bool
  at_ : Int
  bs : List UInt8

namespace Med
def opE (m : Med) (o : Opn) : Int := if o.er then m.eraseE o.at_ else m.writeE o.at_ o.bs
def op (m : Med) (o : Opn) : Med := if o.er then m.erase o.at_ else m.write o.at_ o.bs
def ops (m : Med) (l : List Opn) : Med := l.foldl op m
theorem Good.op {m : Med} (h : m.Good) (o : Opn) : (m.op o).Good := by unfold Med.op; split; exact h.erase _; exact h.write _ _
theorem op_g (m : Med) (o : Opn) : (m.op o).g = m.g := by unfold op; split; exact erase_g _ _; exact write_g _ _ _
theorem op_len (m : Med) (o : Opn) : (m.op o).l.length = m.l.length := by unfold op; split; exact erase_len _ _; exact write_len _ _ _
theorem ops_snoc (m : Med) (l : List Opn) (o : Opn) : m.ops (l ++ [o]) = (m.ops l).op o := by unfold ops; rw [List.foldl_append]; rfl
theorem ops_g (m : Med) (l : List Opn) : (m.ops l).g = m.g := by
  unfold ops
  induction l generalizing m with
  | nil => rfl
  | cons o l ih => rw [List.foldl_cons, ih, op_g]
end Med

/-- Bytes that lie below block B. -/
def BytesB (w : World) (B : Nat) (A : Option Addr) (l : List UInt8) : Prop :=
  l = [] ∨ ∃ g off, A = some ⟨g, off, none⟩ ∧ g < B ∧ ∀ i x, l[i]? = some x → w.cell? ⟨g, off + i, none⟩ = some (.int .u8 (x.toNat : Int))
theorem BytesB.rd {w : World} {B : Nat} {A : Option Addr} {l : List UInt8} (h : BytesB w B A l) : BytesRd w A l := h.imp id (fun ⟨g, off, h1, _, h2⟩ => ⟨g, off, h1, h2⟩)
theorem BytesB.below {w w' : World} {B : Nat} {A : Option Addr} {l : List UInt8} (h : BytesB w B A l) (hb : Below B w w') : BytesB w' B A l :=
  h.imp id (fun ⟨g, off, h1, h2, h3⟩ => ⟨g, off, h1, h2, fun i x hx => (hb.cell (p := ⟨g, off + i, none⟩) h2).trans (h3 i x hx)⟩)
theorem BytesB.mono {w : World} {B B' : Nat} {A : Option Addr} {l : List UInt8} (h : BytesB w B A l) (hb : B ≤ B') : BytesB w B' A l :=
  h.imp id (fun ⟨g, off, h1, h2, h3⟩ => ⟨g, off, h1, by omega, h3⟩)

/-- An operation's cells, from an address on, below block B. -/
def OpB (w : World) (B : Nat) (g off : Nat) (o : Opn) : Prop :=
  ∃ A c, w.cell? ⟨g, off, none⟩ = some (.bool o.er) ∧ w.cell? ⟨g, off + 1, none⟩ = some (.int .i64 o.at_) ∧ w.cell? ⟨g, off + 2, none⟩ = some (.slice A o.bs.length c) ∧ BytesB w B A o.bs
/-- A list of operations below block B. -/
def OpsB (w : World) (B : Nat) (A : Option Addr) (l : List Opn) : Prop :=
  l = [] ∨ ∃ g off, A = some ⟨g, off, none⟩ ∧ g < B ∧ ∀ i o, l[i]? = some o → OpB w B g (off + i * 3) o
theorem OpB.below {w w' : World} {B g off : Nat} {o : Opn} (hg : g < B) (h : OpB w B g off o) (hb : Below B w w') : OpB w' B g off o := by
  obtain ⟨A, c, h1, h2, h3, h4⟩ := h
  exact ⟨A, c, (hb.cell (p := ⟨g, off, none⟩) hg).trans h1, (hb.cell (p := ⟨g, off + 1, none⟩) hg).trans h2, (hb.cell (p := ⟨g, off + 2, none⟩) hg).trans h3, h4.below hb⟩
theorem OpsB.below {w w' : World} {B : Nat} {A : Option Addr} {l : List Opn} (h : OpsB w B A l) (hb : Below B w w') : OpsB w' B A l :=
  h.imp id (fun ⟨g, off, h1, h2, h3⟩ => ⟨g, off, h1, h2, fun i o ho => (h3 i o ho).below h2 hb⟩)

theorem Fr.below_ne {q : Nat} {w w' : World} (h : Fr (· = q) w w') {B : Nat} (hB : B ≤ w.heap.size) (hq : B ≤ q) : Below B w w' := h.below hB (fun k hk e => by omega)

set_option maxHeartbeats 1000000 in
theorem rdo_any (p q cap : Nat) (m : Med) (er : Bool) (a : Int) (l : List UInt8) (A : Option Addr) (c : Nat) (w : World) (h : IsRef w p q cap m) (hl : BytesRd w A l) (hlen : l.length ≤ 140737488351232) :
    Calls Tryz.prog 74 #[.pointer (some ⟨p, 0, none⟩), .agg #[.bool er, .int .i64 a, .slice A l.length c]] w (ROpIs (m.opE ⟨er, a, l⟩) p q cap (m.op ⟨er, a, l⟩) w) := by
  have hb0 : Below w.heap.size w (w.alloc (.cells #[.bool er, .int .i64 a, .slice A l.length c] 115)) := (Below.refl _ _).alloc (Nat.le_refl _) _
  have h1 := h.below hb0
  have hl1 := hl.below hb0
  cases er with
  | true =>
    have e1 : m.opE ⟨true, a, l⟩ = m.eraseE a := rfl
    have e2 : m.op ⟨true, a, l⟩ = m.erase a := rfl
    rw [e1, e2]
    clear e1 e2
    have H1 := Lib.hid h1
    have Hb0 := Lib.hid hb0
    clear h1 hb0 h hl hl1
    go_enter Tryz.func74, Tryz.ntmps74
    go_wp2_with (go_at_call 93; refine (rerase_any p q cap m a _ H1.out).mono ?_; rintro e w' ⟨rfl, hM, hF⟩; have HM := Lib.hid hM; have HF := Lib.hid hF; clear hM hF)
    go_ret
    exact ⟨rfl, HM.out, (Fr.ofBelow Hb0.out (· = q)).trans HF.out⟩
  | false =>
    have e1 : m.opE ⟨false, a, l⟩ = m.writeE a l := rfl
    have e2 : m.op ⟨false, a, l⟩ = m.write a l := rfl
    rw [e1, e2]
    clear e1 e2
    have H1 := Lib.hid h1
    have H2 := Lib.hid hl1
    have Hb0 := Lib.hid hb0
    clear h1 hb0 h hl hl1
    go_enter Tryz.func74, Tryz.ntmps74
    go_wp2_with (go_at_call 94; refine (rwrite_any p q cap m a A l c _ H1.out H2.out hlen).mono ?_; rintro e w' ⟨rfl, hM, hF⟩; have HM := Lib.hid hM; have HF := Lib.hid hF; clear hM hF)
    go_ret
    exact ⟨rfl, HM.out, (Fr.ofBelow Hb0.out (· = q)).trans HF.out⟩

/-- Operations are few and short. -/
def shortOps (l : List Opn) : Bool := decide (l.length ≤ 60 ∧ ∀ o ∈ l, o.bs.length ≤ 100)

end Go.Proofs.YtmloiifnadaaoaaGreat
