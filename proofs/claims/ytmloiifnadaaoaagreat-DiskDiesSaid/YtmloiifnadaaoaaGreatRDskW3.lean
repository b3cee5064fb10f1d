/- The walk of the reference's begin: where it stops ahead of the fault. -/
import Derived.Test.YtmloiifnadaaoaaGreatRDskW
import Derived.Test.YtmloiifnadaaoaaGreatDskW4
import Derived.Test.YtmloiifnadaaoaaGreatFltV
namespace Go.Proofs.YtmloiifnadaaoaaGreat
open Go.RowKit
set_option linter.unusedVariables false
set_option linter.unusedSimpArgs false

section
variable {G : Nat → Prop} {pd pp : Nat} {D : Dsk} {P : Pow}
theorem IsRDisk.frP {w w' : World} (h : IsRDisk w G pd pp D) (hp : IsRPow w G pp P) (hF : Fr (· = pp) w w') : IsRDisk w' G pd pp D := h.keepA hF (avoid_one hp.hasP (by decide))
theorem rfrG_pow {w w' : World} (hp : IsRPow w G pp P) (hF : Fr (· = pp) w w') : FrG G rdiskTs w w' := FrG.ofOne hF hp.hasP (by decide) hp.1
def RBegIs (G : Nat → Prop) (pd pp : Nat) (b : Beg) (w : World) (e : Ending) (w' : World) : Prop :=
  e = .returned (.tuple #[.agg #[.int .i64 b.f.at_, .int .i64 b.f.kind, .int .i64 b.f.to], .int .i64 b.e]) ∧ IsRDisk w' G pd pp b.d ∧ IsRPow w' G pp b.p ∧ FrG G rdiskTs w w'

set_option maxHeartbeats 4000000 in
set_option maxRecDepth 1000000 in
theorem rbegin_state (key : Int) (w : World) (h : IsRDisk w G pd pp D) (hp : IsRPow w G pp P) (hE : D.state P ≠ 0) :
    Calls Tryz.prog 64 #[.pointer (some ⟨pd, 0, none⟩), .int .u64 key] w (RBegIs G pd pp (D.begin_ P key) w) := by
  rw [Dsk.begin_state hE]
  have hb0 : Below w.heap.size w (w.alloc (.cells #[.int .i64 0, .int .i64 0, .int .i64 0] 64)) := (Below.refl _ _).alloc (Nat.le_refl _) _
  have H := Lib.hid (h.below hb0)
  have HP := Lib.hid (hp.below hb0)
  have HB := Lib.hid hb0
  have H0 := Lib.hid h
  have P0 := Lib.hid hp
  obtain ⟨pc, A, c, h0⟩ := h
  obtain ⟨_, _, _, _, k9, _, _, _, _, _, _, hl⟩ := h0.cells
  have hne : ¬ pd = w.heap.size := by omega
  clear h0 hp hb0
  cases hd : D.dead with
  | true =>
    rw [Dsk.state_dead hd]
    rw [hd] at k9
    clear hd hE
    go_enter Tryz.func64, Tryz.ntmps64
    go_wp2
    refine bodyPost_ret (v := .tuple #[.agg #[.int .i64 0, .int .i64 0, .int .i64 0], .int .i64 14]) (by simp [results, Tryz.results64, go_sem]) rfl ⟨rfl, H.out, HP.out, FrG.ofBelow HB.out⟩
  | false =>
    have hr : D.ready P = false := by
      cases hr : D.ready P with
      | false => rfl
      | true => rw [Dsk.state_ready hd, hr] at hE; exact absurd rfl hE
    have hs : D.state P = 13 := by rw [Dsk.state_ready hd, hr]; rfl
    rw [hs]
    rw [hd] at k9
    have Hr := Lib.hid hr
    clear hd hE hr hs
    go_enter Tryz.func64, Tryz.ntmps64
    go_wp2_with (go_at_call 69; refine (rready_any _ H.out HP.out).mono ?_; rintro e w1 ⟨rfl, hb⟩; rw [Hr.out]; obtain ⟨z0, z1, z2, y0, y1, y2⟩ := box3 hb; have hz : w.heap.size < w1.heap.size := World.block_lt_of_cell? _ _ z0; have HB1 := Lib.hid (below_of hb HB.out); have H1 := Lib.hid (H.out.below hb); have P1 := Lib.hid (HP.out.below hb); clear hb)
    have hB1 := HB1.out
    refine bodyPost_ret (v := .tuple #[.agg #[.int .i64 0, .int .i64 0, .int .i64 0], .int .i64 13]) (by simp [results, Tryz.results64, go_sem, z0, z1, z2, hz]) rfl ?_
    exact ⟨rfl, H0.out.below (by repeat (first | (with_reducible exact Below.refl _ _) | (with_reducible refine Below.drew ?_) | (with_reducible refine below_drw ?_ _) | (with_reducible refine below_alloc ?_ _) | (with_reducible refine below_set ?_ (by simp <;> omega) _) | (refine below_of (by assumption) ?_))), P0.out.below (by repeat (first | (with_reducible exact Below.refl _ _) | (with_reducible refine Below.drew ?_) | (with_reducible refine below_drw ?_ _) | (with_reducible refine below_alloc ?_ _) | (with_reducible refine below_set ?_ (by simp <;> omega) _) | (refine below_of (by assumption) ?_))), FrG.ofBelow (by repeat (first | (with_reducible exact Below.refl _ _) | (with_reducible refine Below.drew ?_) | (with_reducible refine below_drw ?_ _) | (with_reducible refine below_alloc ?_ _) | (with_reducible refine below_set ?_ (by simp <;> omega) _) | (refine below_of (by assumption) ?_)))⟩
end
end Go.Proofs.YtmloiifnadaaoaaGreat
