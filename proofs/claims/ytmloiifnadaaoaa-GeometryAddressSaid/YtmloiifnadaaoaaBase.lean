/- Small words on worlds: what a call leaves as it was. -/
import Derived.Test.YtmloiifnadaaoaaProg
import Derived.WalkKit
import Derived.WalkSpells
import Derived.Handy
import Derived.Deep.QuietTactic
import Derived.BigQuiet
import Derived.Lib.Hide
import Derived.Deep.RegionHeld3
namespace Go.Proofs.Ytmloiifnadaaoaa
open Go.RowKit

/-- Below, as two rules of the walk: old cells and old marks read as before. -/
theorem bcell {W w1 : World} (hb : Below W.heap.size W w1) : (∀ b o, b < W.heap.size → w1.cell? ⟨b, o, none⟩ = W.cell? ⟨b, o, none⟩) ∧ (∀ b o, b < W.heap.size → w1.frozen? ⟨b, o, none⟩ = W.frozen? ⟨b, o, none⟩) ∧ (∀ k, k < W.heap.size → k < w1.heap.size) :=
  ⟨fun b o h => hb.cell (p := ⟨b, o, none⟩) h, fun b o h => hb.frozen (p := ⟨b, o, none⟩) h, fun _ h => Nat.lt_of_lt_of_le h hb.size⟩
/-- What a callee leaves, behind what was done before. -/
theorem below_of {w W w' : World} (hb : Below W.heap.size W w') (h : Below w.heap.size w W) : Below w.heap.size w w' := h.trans (hb.mono h.size)
theorem below_alloc {w W : World} (h : Below w.heap.size w W) (o : Obj) : Below w.heap.size w (W.alloc o) := h.alloc h.size o
theorem below_set {w W : World} (h : Below w.heap.size w W) {p : Addr} (hp : w.heap.size ≤ p.block) (u : Value) : Below w.heap.size w (W.setCell p u) := h.setCell hp u
theorem below_drw {w W : World} (h : Below w.heap.size w W) (n : Nat) : Below w.heap.size w (W.drewN n) := ⟨h.os, h.tape, h.output, h.size, h.block⟩
theorem grown_none {w w' : World} (h : Below w.heap.size w w') (row : Option Nat) : w.grownBy w' row := ⟨h.os, h.tape, h.output, h.size, fun k hk _ => h.block k hk⟩
theorem owns_below {w w' : World} (hb : Below w.heap.size w w') {base : Nat} {e : TypeId} {size : Nat} {v : Value} {n : Nat} {xs : List Value} (h : w.ownsRow base e size v n xs) : w'.ownsRow base e size v n xs :=
  h.kept (grown_none hb none) (by cases v.ownBlock <;> simp)
/-- What holds throughout a region whose calls only make memory: all that was there reads as it did. -/
def HeldS (w0 W : World) : Prop := (∀ b o, b < w0.heap.size → W.cell? ⟨b, o, none⟩ = w0.cell? ⟨b, o, none⟩) ∧ (∀ b o, b < w0.heap.size → W.frozen? ⟨b, o, none⟩ = w0.frozen? ⟨b, o, none⟩) ∧ (∀ k, k < w0.heap.size → k < W.heap.size) ∧ Below w0.heap.size w0 W
theorem held_of {w0 W : World} (hb : Below w0.heap.size w0 W) : HeldS w0 W := ⟨fun b o h => hb.cell (p := ⟨b, o, none⟩) h, fun b o h => hb.frozen (p := ⟨b, o, none⟩) h, fun _ h => Nat.lt_of_lt_of_le h hb.size, hb⟩
theorem held_start (w0 : World) : HeldS w0 w0.drew := held_of (Below.refl _ _).drew
theorem held_keep {w0 W w' : World} (h : HeldS w0 W) (hb : Below W.heap.size W w') : HeldS w0 w' := held_of (below_of hb h.2.2.2)
theorem results_tmp4 {fn : Func} {t u v x : Tmp} (h : fn.results = #[.tmp t, .tmp u, .tmp v, .tmp x]) (tmps : Array Value) (P : Program) (w : World) :
    (results fn tmps).run P w = .ok (.tuple #[tmps.getD t undef, tmps.getD u undef, tmps.getD v undef, tmps.getD x undef]) w := by simp [results, h]
theorem ret_int {k : IntKind} {a b : Int} (h : a = b) : Ending.returned (.int k a) = .returned (.int k b) := by rw [h]
theorem ret_bool {a b : Bool} (h : a = b) : Ending.returned (.bool a) = .returned (.bool b) := by rw [h]
end Go.Proofs.Ytmloiifnadaaoaa
