/- The law DiskActs. -/
import Derived.Test.YtmloiifnadaaoaaGreatLawZ
import Derived.Test.YtmloiifnadaaoaaGreatSameW
namespace Go.Proofs.YtmloiifnadaaoaaGreat
open Go.RowKit
set_option linter.unusedVariables false
set_option linter.unusedSimpArgs false

/-- Under way in a law: the reference's disks and the local variable that holds them. -/
structure Rw (w : World) (ny rp : Nat) (rq : Bool → Nat) (P : Pow) (D : Bool → Dsk) (W : World) : Prop where
  two : RTwo W w.heap.size rp rq P D
  par : Row 40 ny (duoCells (at0 (rq false)) (at0 (rq true))) W
namespace Rw
variable {w W W' : World} {ny rp : Nat} {rq : Bool → Nat} {P P' : Pow} {D D' : Bool → Dsk} {G : Nat → Prop}
theorem step (h : Rw w ny rp rq P D W) (hT : RTwo W' w.heap.size rp rq P' D') (hF : FrG G rdiskTs W W') : Rw w ny rp rq P' D' W' :=
  ⟨hT, h.par.fr hF ((avoid_TG (Us := [40]) (by decide)).not h.par.hasT (by simp))⟩
theorem other (h : Rw w ny rp rq P D W) (hF : FrG G diskTs W W') : Rw w ny rp rq P D W' :=
  ⟨h.two.frG hF, h.par.fr hF ((avoid_TG (Us := [40]) (by decide)).not h.par.hasT (by simp))⟩
theorem below (h : Rw w ny rp rq P D W) (hb : Below W.heap.size W W') : Rw w ny rp rq P D W' := ⟨h.two.below hb, h.par.below hb⟩
end Rw
theorem Lw.other {w W W' : World} {nx : Nat} {cc : Array Value} {pp : Nat} {q : Bool → Nat} {P : Pow} {D : Bool → Dsk} {G : Nat → Prop} (h : Lw w nx cc pp q P D W) (hF : FrG G rdiskTs W W') (hb : Below w.heap.size W W') : Lw w nx cc pp q P D W' :=
  ⟨h.two.frG hF, h.par.fr hF ((avoid_TG (Us := [35]) (by decide)).not h.par.hasT (by simp)), h.box.fr hF ((avoid_TG (Us := [28]) (by decide)).not h.box.hasT (by simp)), h.bel.trans hb⟩
/-- What a round reads: the pair's three cells, the case's last one, the act's six. -/
def HeldD (nx n0 : Nat) (p0 p1 p2 v7 : Value) (g k : Nat) (u0 u1 u2 u3 u4 u5 : Value) (W : World) : Prop :=
  W.cell? ⟨nx, 0, none⟩ = some p0 ∧ W.cell? ⟨nx, 1, none⟩ = some p1 ∧ W.cell? ⟨nx, 2, none⟩ = some p2 ∧ W.cell? ⟨n0, 7, none⟩ = some v7 ∧ W.cell? ⟨g, k, none⟩ = some u0 ∧ W.cell? ⟨g, k + 1, none⟩ = some u1 ∧ W.cell? ⟨g, k + 2, none⟩ = some u2 ∧ W.cell? ⟨g, k + 3, none⟩ = some u3 ∧ W.cell? ⟨g, k + 4, none⟩ = some u4 ∧ W.cell? ⟨g, k + 5, none⟩ = some u5
def HeldW (ny n0 : Nat) (p0 p1 v7 : Value) (g k : Nat) (u0 u1 u2 u3 u4 u5 : Value) (W : World) : Prop :=
  W.cell? ⟨ny, 0, none⟩ = some p0 ∧ W.cell? ⟨ny, 1, none⟩ = some p1 ∧ W.cell? ⟨n0, 7, none⟩ = some v7 ∧ W.cell? ⟨g, k, none⟩ = some u0 ∧ W.cell? ⟨g, k + 1, none⟩ = some u1 ∧ W.cell? ⟨g, k + 2, none⟩ = some u2 ∧ W.cell? ⟨g, k + 3, none⟩ = some u3 ∧ W.cell? ⟨g, k + 4, none⟩ = some u4 ∧ W.cell? ⟨g, k + 5, none⟩ = some u5
/-- An act that came in, found. -/
theorem act_at {w W : World} {A2 : Option Addr} {la : List Act} (h : ActsB w w.heap.size A2 la) (hb : Below w.heap.size w W) {j : Nat} {a : Act} (ha : la[j]? = some a) :
    ∃ g off A' c', A2 = some ⟨g, off, none⟩ ∧ g < w.heap.size ∧ a.bs.length ≤ c' ∧ ∀ W', Below w.heap.size W W' → BytesB W' w.heap.size A' a.bs ∧ W'.cell? ⟨g, off + j * 6, none⟩ = some (.int .u8 (a.disk.toNat : Int)) ∧ W'.cell? ⟨g, off + j * 6 + 1, none⟩ = some (.int .u8 (a.kind.toNat : Int)) ∧ W'.cell? ⟨g, off + j * 6 + 2, none⟩ = some (.int .u64 a.key) ∧ W'.cell? ⟨g, off + j * 6 + 3, none⟩ = some (.int .i64 a.at_) ∧ W'.cell? ⟨g, off + j * 6 + 4, none⟩ = some (.slice A' a.bs.length c') ∧ W'.cell? ⟨g, off + j * 6 + 5, none⟩ = some (.bool a.force) := by
  rcases h with h1 | ⟨g, off, h1, h2, h3⟩
  · rw [h1] at ha; simp at ha
  · obtain ⟨A', c', _, _, _, _, _, _, _, k7⟩ := h3 j a ha
    obtain ⟨A', c', k0, k1, k2, k3, k4, k5, k6, k7⟩ := h3 j a ha
    refine ⟨g, off, A', c', h1, h2, k7, fun W' hW => ?_⟩
    have e : ∀ o, W'.cell? ⟨g, o, none⟩ = w.cell? ⟨g, o, none⟩ := fun o => (hb.trans hW).cell (p := ⟨g, o, none⟩) h2
    exact ⟨k6.below (hb.trans hW), (e _).trans k0, (e _).trans k1, (e _).trans k2, (e _).trans k3, (e _).trans k4, (e _).trans k5⟩
def st0 (g : Geo) (l0 l1 : List Flt) : St := ⟨Pow.new, newSt g l0 l1⟩
theorem st0_small (g : Geo) {l0 l1 : List Flt} (h0 : l0.length ≤ 20) (h1 : l1.length ≤ 20) {l : List Act} (hl : l.length ≤ 60) : Small ((st0 g l0 l1).acts l).d := by
  constructor <;> intro i
  · rw [(St.acts_fl (st0 g l0 l1) l i).1]; cases i <;> simp [st0, newSt, Dsk.new] <;> omega
  · have := (St.acts_fl (st0 g l0 l1) l i).2
    have h2 : ((st0 g l0 l1).d i).c.l.length = 0 := rfl
    omega

end Go.Proofs.YtmloiifnadaaoaaGreat
