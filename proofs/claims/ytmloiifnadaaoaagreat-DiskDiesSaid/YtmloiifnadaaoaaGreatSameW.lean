/- The walk of same (tegulalaw14): a disk shows the state of one of the reference. -/
import Derived.Test.YtmloiifnadaaoaaGreatActA
import Derived.Test.YtmloiifnadaaoaaGreatRDskW
namespace Go.Proofs.YtmloiifnadaaoaaGreat
open Go.RowKit
set_option linter.unusedVariables false
set_option linter.unusedSimpArgs false

set_option maxHeartbeats 8000000 in
set_option maxRecDepth 1000000 in
theorem same14_any (G G' : Nat → Prop) (pd pp rd rp : Nat) (D : Dsk) (w : World) (h : IsDisk w G pd pp D) (hr : IsRDisk w G' rd rp D) (hlen : D.c.l.length ≤ 1000000) :
    Calls Tryz.prog 15 #[.pointer (some ⟨pd, 0, none⟩), .pointer (some ⟨rd, 0, none⟩)] w fun e w' => e = .returned (.bool true) ∧ Below w.heap.size w w' := by
  obtain ⟨pc, A, c, hr⟩ := hr
  obtain ⟨k5, _, _, _, k9, _, k11, k12, k13, k14, k15, hl⟩ := hr.cells
  obtain ⟨g0, g1, g2, g3, g4⟩ := hr.geoCells
  have HCC := Lib.hid hr.cache.toC
  have hcc := hr.cache
  obtain ⟨p, q, n, v, xs, hc⟩ := hcc
  obtain ⟨Av, cv, rfl, _, _⟩ := hc.toC.form
  have c1 := hc.c1
  have lc := hc.hasC.lt
  have H := Lib.hid h
  obtain ⟨m, hm⟩ : ∃ m, D.m = m := ⟨_, rfl⟩
  have Hm := Lib.hid hm
  have Hm2 := Lib.hid (show D.c.d.ops D.c.l = m from hm)
  clear h hr hc hm
  go_enter Tryz.func15, Tryz.ntmps15
  go_wp2_with fail
  go_region_held3 (fun W_ => (∀ b_ o_, b_ < (w).heap.size → W_.cell? ⟨b_, o_, none⟩ = (w).cell? ⟨b_, o_, none⟩) ∧ (∀ b_ o_, b_ < (w).heap.size → W_.frozen? ⟨b_, o_, none⟩ = (w).frozen? ⟨b_, o_, none⟩) ∧ (∀ k_, k_ < (w).heap.size → k_ < W_.heap.size) ∧ Below (w).heap.size (w) W_) (first | exact held_start _ | assumption | exact held_keep (by assumption) (by assumption) | exact held_keep (by assumption) ((Below.refl _ _).alloc (Nat.le_refl _) _) | exact held_of (by assumption)) (first | (go_at_call 40; refine (dgeometry_any _ (H.out.below (by repeat (first | (with_reducible exact Below.refl _ _) | (with_reducible refine Below.drew ?_) | (with_reducible refine below_drw ?_ _) | (with_reducible refine below_alloc ?_ _) | (with_reducible refine below_set ?_ (by simp <;> omega) _) | (refine below_of (by assumption) ?_))))).mono ?_; rintro e w5 ⟨rfl, hb⟩; have hbx : Below w.heap.size w w5 := below_of hb (Below.refl _ _).drew; have D5 := Lib.hid (H.out.below hbx); clear hb) | (go_at_call 12; refine (ddead_any _ D5.out).mono ?_; rintro e w' ⟨rfl, rfl⟩) | (go_at_call 41; refine (dstats_any _ D5.out).mono ?_; rintro e w6 ⟨rfl, hb⟩; have hby : Below w.heap.size w w6 := below_of hb hbx; have D6 := Lib.hid (H.out.below hby); clear hb) | (go_at_call 42; refine (dops_any _ D6.out).mono ?_; rintro e w' ⟨rfl, rfl⟩) | (go_at_call 43; refine (dpending_any _ D6.out).mono ?_; rintro e w' ⟨rfl, rfl⟩))
  have k5' := cell_later hby k5
  have E6 := Lib.hid hby
  have hm7 := Hm2.out
  have hle : m.l.length ≤ 81920 := by rw [← hm7]; obtain ⟨_, _, _, h7⟩ := D6.out; obtain ⟨_, _, _, _, _, _, _, _, h8⟩ := h7.cache; exact h8.con.good.len_le
  clear hm7 hby hbx
  go_wp2_with (go_at_call 44; refine (rcontents_any 0 pc D.c.d D.c.l _ (HCC.out.below E6.out) hlen).mono ?_; rintro e w0 ⟨hb0, p', q', n', rfl, hp', hq', hR⟩; rw [Hm2.out] at hR; have R0 := Lib.hid hR; have D7 := Lib.hid (D6.out.below hb0); have E7 := Lib.hid (below_of hb0 E6.out); clear hR hb0)
  have d5 := R0.out.c5
  go_loop [6] (fun i => ∃ j : Nat, j ≤ m.l.length + 2 ∧ i = .int .i64 ((j : Int) - 1)) (fun i => m.l.length + 2 - (intOf i + 1).toNat)
  case atStart => exact ⟨0, by omega, by go_num⟩
  case round =>
    obtain ⟨j, hj, rfl⟩ := hrel
    by_cases hjn : j < m.l.length + 2
    · generalize ha : (j : Int) - 1 = a at *
      have ha1 : -1 ≤ a := by omega
      have ha2 : a ≤ m.l.length := by omega
      have hj1 : a = (j : Int) - 1 := ha.symm
      have Hj1 := Lib.hid hj1
      clear ha hj1
      go_wp2_with (first | (go_at_call 45; refine (dstateOf_any a _ D7.out).mono ?_; rintro e w3 ⟨rfl, rfl⟩; rw [Hm.out]) | (go_at_call 46; refine (rstate_any p' q' n' m a _ R0.out).mono ?_; rintro e w' ⟨rfl, rfl⟩))
      go_round
      case rel => exact ⟨j + 1, by omega, by have := Hj1.out; go_num⟩
      case measure => have := Hj1.out; simp [intOf]; omega
    · have hbig : (m.l.length : Int) < (j : Int) - 1 := by omega
      go_wp2_with fail
      go_ret
      exact ⟨rfl, E7.out⟩
end Go.Proofs.YtmloiifnadaaoaaGreat
