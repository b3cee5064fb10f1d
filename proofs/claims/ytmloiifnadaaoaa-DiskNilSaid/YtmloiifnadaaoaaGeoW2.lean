/- The walks of package geometry and of its reference, the second part: Random, Address, the reference's Locate. -/
import Derived.Test.YtmloiifnadaaoaaGeoW1
namespace Go.Proofs.Ytmloiifnadaaoaa
open Go.RowKit
set_option linter.unusedVariables false
set_option linter.unusedSimpArgs false

set_option maxHeartbeats 1000000 in
theorem random_any (r b t s o a : Int) (w : World) : Calls Try.prog 40 #[.agg #[.int .i64 r, .int .i64 b, .int .i64 t, .int .i64 s, .int .i64 o], .int .i64 a] w fun e w' =>
    e = .returned (.bool ((Geo.mk r b t s o).ok && wi a 0 (r - 1))) ∧ Below w.heap.size w w' := by
  cases hv : (Geo.mk r b t s o).ok with
  | false =>
    go_enter Try.func40, Try.ntmps40
    go_wp2_with ((go_at_call 29; refine (valid_any _ _ _ _ _ _).mono ?_; rintro e w' ⟨rfl, hb⟩); obtain ⟨hc, hf, hz⟩ := bcell hb)
    go_ret
    exact ⟨rfl, (by repeat (first | (with_reducible exact Below.refl _ _) | (with_reducible refine Below.drew ?_) | (with_reducible refine below_drw ?_ _) | (with_reducible refine below_alloc ?_ _) | (with_reducible refine below_set ?_ (by simp <;> omega) _) | (refine below_of (by assumption) ?_)))⟩
  | true =>
    obtain ⟨r0, r1, _⟩ := Geo.ok_iff.1 hv
    simp only at r0 r1
    go_enter Try.func40, Try.ntmps40
    go_wp2_with (first | ((go_at_call 29; refine (valid_any _ _ _ _ _ _).mono ?_; rintro e w' ⟨rfl, hb⟩); obtain ⟨hc, hf, hz⟩ := bcell hb) | (go_at_call 110; refine (within_any _ _ _ _).mono ?_; rintro e w' ⟨rfl, rfl⟩))
    go_ret
    exact ⟨by simp, (by repeat (first | (with_reducible exact Below.refl _ _) | (with_reducible refine Below.drew ?_) | (with_reducible refine below_drw ?_ _) | (with_reducible refine below_alloc ?_ _) | (with_reducible refine below_set ?_ (by simp <;> omega) _) | (refine below_of (by assumption) ?_)))⟩

set_option maxHeartbeats 1000000 in
theorem rrandom_any (r b t s o a : Int) (w : World) : Calls Try.prog 41 #[.agg #[.int .i64 r, .int .i64 b, .int .i64 t, .int .i64 s, .int .i64 o], .int .i64 a] w fun e w' =>
    e = .returned (.bool ((Geo.mk r b t s o).ok && wi a 0 (r - 1))) ∧ Below w.heap.size w w' := by
  cases hv : (Geo.mk r b t s o).ok with
  | false =>
    go_enter Try.func41, Try.ntmps41
    go_wp2_with ((go_at_call 30; refine (rvalid_any _ _ _ _ _ _).mono ?_; rintro e w' ⟨rfl, hb⟩); obtain ⟨hc, hf, hz⟩ := bcell hb)
    go_ret
    exact ⟨rfl, (by repeat (first | (with_reducible exact Below.refl _ _) | (with_reducible refine Below.drew ?_) | (with_reducible refine below_drw ?_ _) | (with_reducible refine below_alloc ?_ _) | (with_reducible refine below_set ?_ (by simp <;> omega) _) | (refine below_of (by assumption) ?_)))⟩
  | true =>
    obtain ⟨r0, r1, _⟩ := Geo.ok_iff.1 hv
    simp only at r0 r1
    go_enter Try.func41, Try.ntmps41
    go_wp2_with ((go_at_call 30; refine (rvalid_any _ _ _ _ _ _).mono ?_; rintro e w' ⟨rfl, hb⟩); obtain ⟨hc, hf, hz⟩ := bcell hb)
    all_goals go_ret
    all_goals refine ⟨ret_bool ?_, (by repeat (first | (with_reducible exact Below.refl _ _) | (with_reducible refine Below.drew ?_) | (with_reducible refine below_drw ?_ _) | (with_reducible refine below_alloc ?_ _) | (with_reducible refine below_set ?_ (by simp <;> omega) _) | (refine below_of (by assumption) ?_)))⟩
    all_goals simp only [wi]
    all_goals first | (rw [eq_comm]; simp; omega) | (rw [Bool.eq_iff_iff]; simp; omega)

set_option maxHeartbeats 2000000 in
theorem address_any (r b t s o x y z : Int) (w : World) : Calls Try.prog 42 #[.agg #[.int .i64 r, .int .i64 b, .int .i64 t, .int .i64 s, .int .i64 o], .int .i64 x, .int .i64 y, .int .i64 z] w fun e w' =>
    e = .returned (.tuple #[.int .i64 ((Geo.mk r b t s o).adr x y z).1, .int .i64 ((Geo.mk r b t s o).adr x y z).2]) ∧ Below w.heap.size w w' := by
  cases hv : (Geo.mk r b t s o).ok with
  | false =>
    rw [Geo.adr_no hv]
    go_enter Try.func42, Try.ntmps42
    go_wp2_with ((go_at_call 29; refine (valid_any _ _ _ _ _ _).mono ?_; rintro e w' ⟨rfl, hb⟩); obtain ⟨hc, hf, hz⟩ := bcell hb)
    go_ret2
    exact ⟨rfl, (by repeat (first | (with_reducible exact Below.refl _ _) | (with_reducible refine Below.drew ?_) | (with_reducible refine below_drw ?_ _) | (with_reducible refine below_alloc ?_ _) | (with_reducible refine below_set ?_ (by simp <;> omega) _) | (refine below_of (by assumption) ?_)))⟩
  | true =>
    have ho := Geo.ok_iff.1 hv
    have ho' := Lib.hid ho
    obtain ⟨r0, r1, b0, b1, t0, t1, s0, s1, _, _⟩ := ho
    simp only at r0 r1 b0 b1 t0 t1 s0 s1
    by_cases hin : (0 ≤ x ∧ x < b) ∧ (0 ≤ y ∧ y < t) ∧ 0 ≤ z ∧ z < s
    · have e0 := Lib.hid (Geo.adr_in ho'.out hin.1 hin.2.1 hin.2.2)
      have hbd := Geo.adr_bd hin.1 hin.2.1 b1 t1 s0 s1
      have w1 : wi x 0 (b - 1) = true := wi_true.2 (by omega)
      have w2 : wi y 0 (t - 1) = true := wi_true.2 (by omega)
      have w3 : wi z 0 (s - 1) = true := wi_true.2 (by omega)
      obtain ⟨⟨x0, x1⟩, ⟨y0, y1⟩, z0, z1⟩ := hin
      obtain ⟨⟨m0, m1⟩, m2, m3⟩ := hbd
      go_enter Try.func42, Try.ntmps42
      go_wp2_with (first | ((go_at_call 29; refine (valid_any _ _ _ _ _ _).mono ?_; rintro e w' ⟨rfl, hb⟩); obtain ⟨hc, hf, hz⟩ := bcell hb) | (go_at_call 110; refine (within_any _ _ _ _).mono ?_; rintro e w' ⟨rfl, rfl⟩))
      go_ret2
      exact ⟨by rw [e0.out]; rfl, (by repeat (first | (with_reducible exact Below.refl _ _) | (with_reducible refine Below.drew ?_) | (with_reducible refine below_drw ?_ _) | (with_reducible refine below_alloc ?_ _) | (with_reducible refine below_set ?_ (by simp <;> omega) _) | (refine below_of (by assumption) ?_)))⟩
    · rw [Geo.adr_out ho'.out hin]
      have hin' := Lib.hid hin
      clear hin
      go_enter Try.func42, Try.ntmps42
      go_wp2_with (first | ((go_at_call 29; refine (valid_any _ _ _ _ _ _).mono ?_; rintro e w' ⟨rfl, hb⟩); obtain ⟨hc, hf, hz⟩ := bcell hb) | (go_at_call 110; refine (within_any _ _ _ _).mono ?_; rintro e w' ⟨rfl, rfl⟩))
      all_goals first
        | (go_ret2; exact ⟨rfl, (by repeat (first | (with_reducible exact Below.refl _ _) | (with_reducible refine Below.drew ?_) | (with_reducible refine below_drw ?_ _) | (with_reducible refine below_alloc ?_ _) | (with_reducible refine below_set ?_ (by simp <;> omega) _) | (refine below_of (by assumption) ?_)))⟩)
        | (exfalso; refine hin'.out ?_; simp_all [wi_true]; omega)
        | (exfalso; refine hin'.out ?_; omega)

set_option maxHeartbeats 2000000 in
theorem raddress_any (r b t s o x y z : Int) (w : World) : Calls Try.prog 43 #[.agg #[.int .i64 r, .int .i64 b, .int .i64 t, .int .i64 s, .int .i64 o], .int .i64 x, .int .i64 y, .int .i64 z] w fun e w' =>
    e = .returned (.tuple #[.int .i64 ((Geo.mk r b t s o).adr x y z).1, .int .i64 ((Geo.mk r b t s o).adr x y z).2]) ∧ Below w.heap.size w w' := by
  cases hv : (Geo.mk r b t s o).ok with
  | false =>
    rw [Geo.adr_no hv]
    go_enter Try.func43, Try.ntmps43
    go_wp2_with ((go_at_call 30; refine (rvalid_any _ _ _ _ _ _).mono ?_; rintro e w' ⟨rfl, hb⟩); obtain ⟨hc, hf, hz⟩ := bcell hb)
    go_ret2
    exact ⟨rfl, (by repeat (first | (with_reducible exact Below.refl _ _) | (with_reducible refine Below.drew ?_) | (with_reducible refine below_drw ?_ _) | (with_reducible refine below_alloc ?_ _) | (with_reducible refine below_set ?_ (by simp <;> omega) _) | (refine below_of (by assumption) ?_)))⟩
  | true =>
    have ho := Geo.ok_iff.1 hv
    have ho' := Lib.hid ho
    obtain ⟨r0, r1, b0, b1, t0, t1, s0, s1, _, _⟩ := ho
    simp only at r0 r1 b0 b1 t0 t1 s0 s1
    by_cases hin : (0 ≤ x ∧ x < b) ∧ (0 ≤ y ∧ y < t) ∧ 0 ≤ z ∧ z < s
    · have e0 := Lib.hid (Geo.adr_in ho'.out hin.1 hin.2.1 hin.2.2)
      have hbd := Geo.adr_bd hin.1 hin.2.1 b1 t1 s0 s1
      have w1 : wi x 0 (b - 1) = true := wi_true.2 (by omega)
      have w2 : wi y 0 (t - 1) = true := wi_true.2 (by omega)
      have w3 : wi z 0 (s - 1) = true := wi_true.2 (by omega)
      obtain ⟨⟨x0, x1⟩, ⟨y0, y1⟩, z0, z1⟩ := hin
      obtain ⟨⟨m0, m1⟩, m2, m3⟩ := hbd
      go_enter Try.func43, Try.ntmps43
      go_wp2_with ((go_at_call 30; refine (rvalid_any _ _ _ _ _ _).mono ?_; rintro e w' ⟨rfl, hb⟩); obtain ⟨hc, hf, hz⟩ := bcell hb)
      go_ret2
      exact ⟨by rw [e0.out]; rfl, (by repeat (first | (with_reducible exact Below.refl _ _) | (with_reducible refine Below.drew ?_) | (with_reducible refine below_drw ?_ _) | (with_reducible refine below_alloc ?_ _) | (with_reducible refine below_set ?_ (by simp <;> omega) _) | (refine below_of (by assumption) ?_)))⟩
    · rw [Geo.adr_out ho'.out hin]
      have hin' := Lib.hid hin
      clear hin
      go_enter Try.func43, Try.ntmps43
      go_wp2_with ((go_at_call 30; refine (rvalid_any _ _ _ _ _ _).mono ?_; rintro e w' ⟨rfl, hb⟩); obtain ⟨hc, hf, hz⟩ := bcell hb)
      all_goals first
        | (go_ret2; exact ⟨rfl, (by repeat (first | (with_reducible exact Below.refl _ _) | (with_reducible refine Below.drew ?_) | (with_reducible refine below_drw ?_ _) | (with_reducible refine below_alloc ?_ _) | (with_reducible refine below_set ?_ (by simp <;> omega) _) | (refine below_of (by assumption) ?_)))⟩)
        | (exfalso; refine hin'.out ?_; simp_all [wi_true]; omega)
        | (exfalso; refine hin'.out ?_; omega)

end Go.Proofs.Ytmloiifnadaaoaa
