/- The walks of play, same, fair, awake (tegulalaw11). -/
import Derived.Test.YtmloiifnadaaoaaGreatOpsH
import Derived.Lib.SlBytesConst
namespace Go.Proofs.YtmloiifnadaaoaaGreat
open Go.RowKit
set_option linter.unusedVariables false
set_option linter.unusedSimpArgs false

/-- The cells of an operation read as they did, and so does all below B. -/
def HeldOp (B : Nat) (w : World) (g x : Nat) (er : Bool) (at_ : Int) (A : Option Addr) (n c : Nat) (W : World) : Prop :=
  W.cell? ⟨g, x, none⟩ = some (.bool er) ∧ W.cell? ⟨g, x + 1, none⟩ = some (.int .i64 at_) ∧ W.cell? ⟨g, x + 2, none⟩ = some (.slice A n c) ∧ Below B w W
theorem HeldOp.keep {B : Nat} {w : World} {g x : Nat} {er : Bool} {at_ : Int} {A : Option Addr} {n c : Nat} {W w' : World} (h : HeldOp B w g x er at_ A n c W) {q : Nat} (hF : Fr (· = q) W w') (hB : B ≤ w.heap.size) (hq : B ≤ q) (hg : g < B) : HeldOp B w g x er at_ A n c w' := by
  obtain ⟨h1, h2, h3, h4⟩ := h
  have hb := hF.below_ne (Nat.le_trans hB h4.size) hq
  exact ⟨(hb.cell (p := ⟨g, x, none⟩) hg).trans h1, (hb.cell (p := ⟨g, x + 1, none⟩) hg).trans h2, (hb.cell (p := ⟨g, x + 2, none⟩) hg).trans h3, h4.trans hb⟩

theorem IsMed.frR {w w' : World} {p q cap p' q' cap' : Nat} {m n : Med} (h : IsMed w p q cap m) (r : IsRef w p' q' cap' n) (hF : Fr (· = q') w w') : IsMed w' p q cap m :=
  h.keep hF (fun e => h.hasP.ne r.hasQ (by decide) e) (fun e => h.hasQ.ne r.hasQ (by decide) e) (fun k e hh => by subst e; exact hh.ne r.hasQ (by decide) rfl)
theorem IsRef.frM {w w' : World} {p q cap p' q' cap' : Nat} {m n : Med} (r : IsRef w p' q' cap' n) (h : IsMed w p q cap m) (hF : Fr (· = q) w w') : IsRef w' p' q' cap' n :=
  r.keep hF (fun e => r.hasP.ne h.hasQ (by decide) e) (fun e => r.hasQ.ne h.hasQ (by decide) e)
theorem Fr.or1 {q q' : Nat} {w w' : World} (h : Fr (· = q) w w') : Fr (fun k => k = q ∨ k = q') w w' := h.mono (fun _ _ e => .inl e)
theorem Fr.or2 {q q' : Nat} {w w' : World} (h : Fr (· = q') w w') : Fr (fun k => k = q ∨ k = q') w w' := h.mono (fun _ _ e => .inr e)
theorem IsMed.drew {w : World} {p q cap : Nat} {m : Med} (h : IsMed w p q cap m) : IsMed w.drew p q cap m := h.below (Below.refl _ _).drew
theorem IsRef.drew {w : World} {p q cap : Nat} {m : Med} (h : IsRef w p q cap m) : IsRef w.drew p q cap m := h.below (Below.refl _ _).drew

/-- A geometry is fair: valid and small. -/
def Geo.fair (g : Geo) : Bool := g.ok && decide (g.size ≤ 200)

def exampleG : Geo := ⟨0, 1, 2, 2, 1⟩
def exampleM : Med := ((Med.new exampleG).write 2 [120]).write 0 [121]
theorem example_reads0 : exampleM.readE 0 = 0 ∧ exampleM.readB 0 = [121] ∧ exampleM.state 0 = 1 ∧ exampleM.state 1 = 0 ∧ exampleM.state 2 = 2 := by decide
theorem example_reads : ∃ m0 m1 m : Med, Med.new exampleG = m0 ∧ m0.write 2 [120] = m1 ∧ m1.write 0 [121] = m ∧ m.readE 0 = 0 ∧ m.readB 0 = [121] ∧ m.state 0 = 1 ∧ m.state 1 = 0 ∧ m.state 2 = 2 := ⟨_, _, _, rfl, rfl, rfl, example_reads0⟩
theorem bytes_one {w : World} {b : Nat} {x : UInt8} (h : w.cell? ⟨b, 0, none⟩ = some (.int .u8 (x.toNat : Int))) : BytesRd w (some ⟨b, 0, none⟩) [x] := by
  refine .inr ⟨b, 0, rfl, fun i y hy => ?_⟩
  cases i with
  | zero => obtain rfl := Option.some.inj hy; exact h
  | succ i => simp at hy

theorem below_fr {q : Nat} {w W W' : World} (h : Below w.heap.size w W) (hF : Fr (· = q) W W') (hq : w.heap.size ≤ q) : Below w.heap.size w W' := h.trans (hF.below_ne h.size hq)

end Go.Proofs.YtmloiifnadaaoaaGreat
