/- The walks of package geometry and of its reference: what each function returns. -/
import Derived.Test.YtmloiifnadaaoaaGreatBase
import Derived.Test.YtmloiifnadaaoaaGreatGeo
namespace Go.Proofs.YtmloiifnadaaoaaGreat
open Go.RowKit
set_option linter.unusedVariables false
set_option linter.unusedSimpArgs false

set_option maxHeartbeats 400000 in
theorem within_any (n lo hi : Int) (w : World) : Calls Tryz.prog 96 #[.int .i64 n, .int .i64 lo, .int .i64 hi] w fun e w' => e = .returned (.bool (wi n lo hi)) ∧ w = w' := by
  by_cases h1 : lo ≤ n
  · by_cases h2 : n ≤ hi
    · have e : wi n lo hi = true := wi_true.2 ⟨h1, h2⟩
      go_enter Tryz.func96, Tryz.ntmps96
      go_wp2
      go_ret
      exact ⟨by simp [e], rfl⟩
    · have e : wi n lo hi = false := wi_false.2 (fun h => h2 h.2)
      go_enter Tryz.func96, Tryz.ntmps96
      go_wp2
      go_ret
      exact ⟨by simp [e], rfl⟩
  · have e : wi n lo hi = false := wi_false.2 (fun h => h1 h.1)
    go_enter Tryz.func96, Tryz.ntmps96
    go_wp2
    go_ret
    exact ⟨by simp [e], rfl⟩

set_option maxHeartbeats 400000 in
theorem valid_any (r b t s o : Int) (w : World) : Calls Tryz.prog 77 #[.agg #[.int .i64 r, .int .i64 b, .int .i64 t, .int .i64 s, .int .i64 o]] w fun e w' =>
    e = .returned (.bool (Geo.mk r b t s o).ok) ∧ Below w.heap.size w w' := by
  go_enter Tryz.func77, Tryz.ntmps77
  go_wp2_with (go_at_call 96; refine (within_any _ _ _ _).mono ?_; rintro e w' ⟨rfl, rfl⟩)
  all_goals go_ret
  all_goals exact ⟨by simp [Geo.ok, *], by go_grown⟩

set_option maxHeartbeats 400000 in
theorem rvalid_any (r b t s o : Int) (w : World) : Calls Tryz.prog 22 #[.agg #[.int .i64 r, .int .i64 b, .int .i64 t, .int .i64 s, .int .i64 o]] w fun e w' =>
    e = .returned (.bool (Geo.mk r b t s o).ok) ∧ Below w.heap.size w w' := by
  go_enter Tryz.func22, Tryz.ntmps22
  go_wp2
  all_goals go_ret
  all_goals refine ⟨ret_bool ?_, by go_grown⟩
  all_goals simp only [Geo.ok, wi]
  all_goals first | (rw [eq_comm]; simp; omega) | (rw [Bool.eq_iff_iff]; simp; omega)

set_option maxHeartbeats 400000 in
theorem bandSize_any (r b t s o : Int) (w : World) : Calls Tryz.prog 97 #[.agg #[.int .i64 r, .int .i64 b, .int .i64 t, .int .i64 s, .int .i64 o]] w fun e w' =>
    e = .returned (.int .i64 (Geo.mk r b t s o).bs) ∧ Below w.heap.size w w' := by
  cases hv : (Geo.mk r b t s o).ok with
  | false =>
    have e0 := Geo.bs_no hv
    go_enter Tryz.func97, Tryz.ntmps97
    go_wp2_with ((go_at_call 77; refine (valid_any _ _ _ _ _ _).mono ?_; rintro e w' ⟨rfl, hb⟩); obtain ⟨hc, hf, hz⟩ := bcell hb)
    go_ret
    exact ⟨ret_int e0.symm, (by repeat (first | (with_reducible exact Below.refl _ _) | (with_reducible refine Below.drew ?_) | (with_reducible refine below_drw ?_ _) | (with_reducible refine below_alloc ?_ _) | (with_reducible refine below_set ?_ (by simp <;> omega) _) | (refine below_of (by assumption) ?_)))⟩
  | true =>
    have ho := Geo.ok_iff.1 hv
    have e0 := Lib.hid (Geo.bs_ok ho)
    have ht := ho.ts
    simp only at ht
    go_enter Tryz.func97, Tryz.ntmps97
    go_wp2_with ((go_at_call 77; refine (valid_any _ _ _ _ _ _).mono ?_; rintro e w' ⟨rfl, hb⟩); obtain ⟨hc, hf, hz⟩ := bcell hb)
    go_ret
    exact ⟨ret_int e0.out.symm, (by repeat (first | (with_reducible exact Below.refl _ _) | (with_reducible refine Below.drew ?_) | (with_reducible refine below_drw ?_ _) | (with_reducible refine below_alloc ?_ _) | (with_reducible refine below_set ?_ (by simp <;> omega) _) | (refine below_of (by assumption) ?_)))⟩

set_option maxHeartbeats 400000 in
theorem rbandSize_any (r b t s o : Int) (w : World) : Calls Tryz.prog 58 #[.agg #[.int .i64 r, .int .i64 b, .int .i64 t, .int .i64 s, .int .i64 o]] w fun e w' =>
    e = .returned (.int .i64 (Geo.mk r b t s o).bs) ∧ Below w.heap.size w w' := by
  cases hv : (Geo.mk r b t s o).ok with
  | false =>
    have e0 := Geo.bs_no hv
    go_enter Tryz.func58, Tryz.ntmps58
    go_wp2_with ((go_at_call 22; refine (rvalid_any _ _ _ _ _ _).mono ?_; rintro e w' ⟨rfl, hb⟩); obtain ⟨hc, hf, hz⟩ := bcell hb)
    go_ret
    exact ⟨ret_int e0.symm, (by repeat (first | (with_reducible exact Below.refl _ _) | (with_reducible refine Below.drew ?_) | (with_reducible refine below_drw ?_ _) | (with_reducible refine below_alloc ?_ _) | (with_reducible refine below_set ?_ (by simp <;> omega) _) | (refine below_of (by assumption) ?_)))⟩
  | true =>
    have ho := Geo.ok_iff.1 hv
    have e0 := Lib.hid (Geo.bs_ok ho)
    have ht := ho.ts
    simp only at ht
    go_enter Tryz.func58, Tryz.ntmps58
    go_wp2_with ((go_at_call 22; refine (rvalid_any _ _ _ _ _ _).mono ?_; rintro e w' ⟨rfl, hb⟩); obtain ⟨hc, hf, hz⟩ := bcell hb)
    go_ret
    exact ⟨ret_int e0.out.symm, (by repeat (first | (with_reducible exact Below.refl _ _) | (with_reducible refine Below.drew ?_) | (with_reducible refine below_drw ?_ _) | (with_reducible refine below_alloc ?_ _) | (with_reducible refine below_set ?_ (by simp <;> omega) _) | (refine below_of (by assumption) ?_)))⟩

set_option maxHeartbeats 400000 in
theorem size_any (r b t s o : Int) (w : World) : Calls Tryz.prog 78 #[.agg #[.int .i64 r, .int .i64 b, .int .i64 t, .int .i64 s, .int .i64 o]] w fun e w' =>
    e = .returned (.int .i64 (Geo.mk r b t s o).size) ∧ Below w.heap.size w w' := by
  cases hv : (Geo.mk r b t s o).ok with
  | false =>
    have e0 := Geo.size_no hv
    go_enter Tryz.func78, Tryz.ntmps78
    go_wp2_with ((go_at_call 77; refine (valid_any _ _ _ _ _ _).mono ?_; rintro e w' ⟨rfl, hb⟩); obtain ⟨hc, hf, hz⟩ := bcell hb)
    go_ret
    exact ⟨ret_int e0.symm, (by repeat (first | (with_reducible exact Below.refl _ _) | (with_reducible refine Below.drew ?_) | (with_reducible refine below_drw ?_ _) | (with_reducible refine below_alloc ?_ _) | (with_reducible refine below_set ?_ (by simp <;> omega) _) | (refine below_of (by assumption) ?_)))⟩
  | true =>
    have ho := Geo.ok_iff.1 hv
    have e0 := Lib.hid (Geo.size_ok ho)
    have e1 := Lib.hid (Geo.bs_ok ho)
    have ht := ho.ts
    have hbt := ho.bts
    have hr := ho.r1
    have hr0 := ho.r0
    simp only at ht hbt hr hr0
    go_enter Tryz.func78, Tryz.ntmps78
    go_wp2_with ((go_at_call 77; refine (valid_any _ _ _ _ _ _).mono ?_; rintro e w' ⟨rfl, hb⟩); obtain ⟨hc, hf, hz⟩ := bcell hb)
    go_region_held3 (fun W_ => (∀ b_ o_, b_ < (w').heap.size → W_.cell? ⟨b_, o_, none⟩ = (w').cell? ⟨b_, o_, none⟩) ∧ (∀ b_ o_, b_ < (w').heap.size → W_.frozen? ⟨b_, o_, none⟩ = (w').frozen? ⟨b_, o_, none⟩) ∧ (∀ k_, k_ < (w').heap.size → k_ < W_.heap.size) ∧ Below (w').heap.size (w') W_) (first | exact held_start _ | assumption | exact held_keep (by assumption) (by assumption) | exact held_keep (by assumption) ((Below.refl _ _).alloc (Nat.le_refl _) _) | exact held_of (by assumption)) (first | ((go_at_call 97; refine (bandSize_any _ _ _ _ _ _).mono ?_; rintro e w' ⟨rfl, hb1⟩); rw [e1.out]))
    all_goals go_wp2
    all_goals go_ret
    all_goals exact ⟨ret_int (by rw [e0.out]; simp (disch := omega) only [IntWalk.i64_in]), (by repeat (first | (with_reducible exact Below.refl _ _) | (with_reducible refine Below.drew ?_) | (with_reducible refine below_drw ?_ _) | (with_reducible refine below_alloc ?_ _) | (with_reducible refine below_set ?_ (by simp <;> omega) _) | (refine below_of (by assumption) ?_)))⟩

set_option maxHeartbeats 400000 in
theorem rsize_any (r b t s o : Int) (w : World) : Calls Tryz.prog 23 #[.agg #[.int .i64 r, .int .i64 b, .int .i64 t, .int .i64 s, .int .i64 o]] w fun e w' =>
    e = .returned (.int .i64 (Geo.mk r b t s o).size) ∧ Below w.heap.size w w' := by
  cases hv : (Geo.mk r b t s o).ok with
  | false =>
    have e0 := Geo.size_no hv
    go_enter Tryz.func23, Tryz.ntmps23
    go_wp2_with ((go_at_call 22; refine (rvalid_any _ _ _ _ _ _).mono ?_; rintro e w' ⟨rfl, hb⟩); obtain ⟨hc, hf, hz⟩ := bcell hb)
    go_ret
    exact ⟨ret_int e0.symm, (by repeat (first | (with_reducible exact Below.refl _ _) | (with_reducible refine Below.drew ?_) | (with_reducible refine below_drw ?_ _) | (with_reducible refine below_alloc ?_ _) | (with_reducible refine below_set ?_ (by simp <;> omega) _) | (refine below_of (by assumption) ?_)))⟩
  | true =>
    have ho := Geo.ok_iff.1 hv
    have e0 := Lib.hid (Geo.size_ok ho)
    have e1 := Lib.hid (Geo.bs_ok ho)
    have ht := ho.ts
    have hbt := ho.bts
    have hr := ho.r1
    have hr0 := ho.r0
    simp only at ht hbt hr hr0
    go_enter Tryz.func23, Tryz.ntmps23
    go_wp2_with ((go_at_call 22; refine (rvalid_any _ _ _ _ _ _).mono ?_; rintro e w' ⟨rfl, hb⟩); obtain ⟨hc, hf, hz⟩ := bcell hb)
    go_region_held3 (fun W_ => (∀ b_ o_, b_ < (w').heap.size → W_.cell? ⟨b_, o_, none⟩ = (w').cell? ⟨b_, o_, none⟩) ∧ (∀ b_ o_, b_ < (w').heap.size → W_.frozen? ⟨b_, o_, none⟩ = (w').frozen? ⟨b_, o_, none⟩) ∧ (∀ k_, k_ < (w').heap.size → k_ < W_.heap.size) ∧ Below (w').heap.size (w') W_) (first | exact held_start _ | assumption | exact held_keep (by assumption) (by assumption) | exact held_keep (by assumption) ((Below.refl _ _).alloc (Nat.le_refl _) _) | exact held_of (by assumption)) (first | ((go_at_call 58; refine (rbandSize_any _ _ _ _ _ _).mono ?_; rintro e w' ⟨rfl, hb1⟩); rw [e1.out]))
    all_goals go_wp2
    all_goals go_ret
    all_goals exact ⟨ret_int (by rw [e0.out]; simp (disch := omega) only [IntWalk.i64_in]), (by repeat (first | (with_reducible exact Below.refl _ _) | (with_reducible refine Below.drew ?_) | (with_reducible refine below_drw ?_ _) | (with_reducible refine below_alloc ?_ _) | (with_reducible refine below_set ?_ (by simp <;> omega) _) | (refine below_of (by assumption) ?_)))⟩

set_option maxHeartbeats 1000000 in
theorem locate_any (r b t s o a : Int) (w : World) : Calls Tryz.prog 102 #[.agg #[.int .i64 r, .int .i64 b, .int .i64 t, .int .i64 s, .int .i64 o], .int .i64 a] w fun e w' =>
    e = .returned (.tuple #[.int .i64 ((Geo.mk r b t s o).loc a).1, .int .i64 ((Geo.mk r b t s o).loc a).2.1, .int .i64 ((Geo.mk r b t s o).loc a).2.2.1, .int .i64 ((Geo.mk r b t s o).loc a).2.2.2]) ∧ Below w.heap.size w w' := by
  cases hv : (Geo.mk r b t s o).ok with
  | false =>
    have e0 : (Geo.mk r b t s o).loc a = (0, 0, 0, 1) := by unfold Geo.loc; rw [if_pos hv]
    rw [e0]
    clear e0
    go_enter Tryz.func102, Tryz.ntmps102
    go_wp2_with ((go_at_call 77; refine (valid_any _ _ _ _ _ _).mono ?_; rintro e w' ⟨rfl, hb⟩); obtain ⟨hc, hf, hz⟩ := bcell hb)
    refine bodyPost_ret (results_tmp4 rfl _ _ _) rfl ?_
    exact ⟨rfl, (by repeat (first | (with_reducible exact Below.refl _ _) | (with_reducible refine Below.drew ?_) | (with_reducible refine below_drw ?_ _) | (with_reducible refine below_alloc ?_ _) | (with_reducible refine below_set ?_ (by simp <;> omega) _) | (refine below_of (by assumption) ?_)))⟩
  | true =>
    have ho := Geo.ok_iff.1 hv
    have hsz := Geo.size_bd (Geo.mk r b t s o)
    cases hi : (Geo.mk r b t s o).inBand a with
    | false =>
      have e0 : (Geo.mk r b t s o).loc a = (0, 0, 0, 2) := by unfold Geo.loc; rw [if_neg (by rw [hv]; decide), if_pos hi]
      rw [e0]
      clear e0
      have hw : wi a r ((Geo.mk r b t s o).size - 1) = false := by simpa [Geo.inBand, hv] using hi
      go_enter Tryz.func102, Tryz.ntmps102
      go_wp2_with ((go_at_call 77; refine (valid_any _ _ _ _ _ _).mono ?_; rintro e w' ⟨rfl, hb⟩); obtain ⟨hc, hf, hz⟩ := bcell hb)
      go_region_held3 (fun W_ => (∀ b_ o_, b_ < (w').heap.size → W_.cell? ⟨b_, o_, none⟩ = (w').cell? ⟨b_, o_, none⟩) ∧ (∀ b_ o_, b_ < (w').heap.size → W_.frozen? ⟨b_, o_, none⟩ = (w').frozen? ⟨b_, o_, none⟩) ∧ (∀ k_, k_ < (w').heap.size → k_ < W_.heap.size) ∧ Below (w').heap.size (w') W_) (first | exact held_start _ | assumption | exact held_keep (by assumption) (by assumption) | exact held_keep (by assumption) ((Below.refl _ _).alloc (Nat.le_refl _) _) | exact held_of (by assumption)) (first | ((go_at_call 78; refine (size_any _ _ _ _ _ _).mono ?_; rintro e w' ⟨rfl, hb1⟩)) | ((go_at_call 96; refine (within_any _ _ _ _).mono ?_; rintro e w' ⟨rfl, rfl⟩)))
      all_goals (simp (disch := omega) only [IntWalk.i64_in, hw])
      all_goals go_wp2
      all_goals refine bodyPost_ret (results_tmp4 rfl _ _ _) rfl ?_
      all_goals exact ⟨rfl, (by repeat (first | (with_reducible exact Below.refl _ _) | (with_reducible refine Below.drew ?_) | (with_reducible refine below_drw ?_ _) | (with_reducible refine below_alloc ?_ _) | (with_reducible refine below_set ?_ (by simp <;> omega) _) | (refine below_of (by assumption) ?_)))⟩
    | true =>
      have hw : wi a r ((Geo.mk r b t s o).size - 1) = true := by simpa [Geo.inBand, hv] using hi
      have e0 : (Geo.mk r b t s o).loc a = (((Geo.mk r b t s o).place a).1, ((Geo.mk r b t s o).place a).2.1, ((Geo.mk r b t s o).place a).2.2, 0) := by unfold Geo.loc; rw [if_neg (by rw [hv]; decide), if_neg (by rw [hi]; decide)]
      have e1 := Lib.hid e0
      clear e0
      have hp := Geo.inBand_iff.1 hi
      have hbt := ho.bts
      obtain ⟨r0, r1, b0, b1, t0, t1, s0, s1, _, _⟩ := ho
      obtain ⟨_, hp1, hp2⟩ := hp
      simp only at r0 r1 b0 b1 t0 t1 s0 s1 hp1 hp2 hbt
      have q0 : 0 ≤ (a - r) / s := Int.ediv_nonneg (by omega) (by omega)
      have q1 : (a - r) / s ≤ 65536 := by
        have := Int.ediv_le_self s (show 0 ≤ a - r by omega)
        omega
      go_enter Tryz.func102, Tryz.ntmps102
      go_wp2_with ((go_at_call 77; refine (valid_any _ _ _ _ _ _).mono ?_; rintro e w' ⟨rfl, hb⟩); obtain ⟨hc, hf, hz⟩ := bcell hb)
      go_region_held3 (fun W_ => (∀ b_ o_, b_ < (w').heap.size → W_.cell? ⟨b_, o_, none⟩ = (w').cell? ⟨b_, o_, none⟩) ∧ (∀ b_ o_, b_ < (w').heap.size → W_.frozen? ⟨b_, o_, none⟩ = (w').frozen? ⟨b_, o_, none⟩) ∧ (∀ k_, k_ < (w').heap.size → k_ < W_.heap.size) ∧ Below (w').heap.size (w') W_) (first | exact held_start _ | assumption | exact held_keep (by assumption) (by assumption) | exact held_keep (by assumption) ((Below.refl _ _).alloc (Nat.le_refl _) _) | exact held_of (by assumption)) (first | ((go_at_call 78; refine (size_any _ _ _ _ _ _).mono ?_; rintro e w' ⟨rfl, hb1⟩)) | ((go_at_call 96; refine (within_any _ _ _ _).mono ?_; rintro e w' ⟨rfl, rfl⟩)))
      all_goals (simp (disch := omega) only [IntWalk.i64_in, hw])
      all_goals go_wp2
      all_goals go_quiet (fail)
      all_goals go_wp2
      all_goals go_quiet (fail)
      all_goals go_wp2
      all_goals refine bodyPost_ret (results_tmp4 rfl _ _ _) rfl ?_
      all_goals exact ⟨by rw [e1.out]; rfl, (by repeat (first | (with_reducible exact Below.refl _ _) | (with_reducible refine Below.drew ?_) | (with_reducible refine below_drw ?_ _) | (with_reducible refine below_alloc ?_ _) | (with_reducible refine below_set ?_ (by simp <;> omega) _) | (refine below_of (by assumption) ?_)))⟩
end Go.Proofs.YtmloiifnadaaoaaGreat
/- The walks of package geometry and of its reference, the second part: Random, Address, the reference's Locate. -/
namespace Go.Proofs.YtmloiifnadaaoaaGreat
open Go.RowKit
set_option linter.unusedVariables false
set_option linter.unusedSimpArgs false

set_option maxHeartbeats 2000000 in
theorem address_any (r b t s o x y z : Int) (w : World) : Calls Tryz.prog 100 #[.agg #[.int .i64 r, .int .i64 b, .int .i64 t, .int .i64 s, .int .i64 o], .int .i64 x, .int .i64 y, .int .i64 z] w fun e w' =>
    e = .returned (.tuple #[.int .i64 ((Geo.mk r b t s o).adr x y z).1, .int .i64 ((Geo.mk r b t s o).adr x y z).2]) ∧ Below w.heap.size w w' := by
  cases hv : (Geo.mk r b t s o).ok with
  | false =>
    rw [Geo.adr_no hv]
    go_enter Tryz.func100, Tryz.ntmps100
    go_wp2_with ((go_at_call 77; refine (valid_any _ _ _ _ _ _).mono ?_; rintro e w' ⟨rfl, hb⟩); obtain ⟨hc, hf, hz⟩ := bcell hb)
    go_ret2
    exact ⟨rfl, (by repeat (first | (with_reducible exact Below.refl _ _) | (with_reducible refine Below.drew ?_) | (with_reducible refine below_drw ?_ _) | (with_reducible refine below_alloc ?_ _) | (with_reducible refine below_set ?_ (by simp <;> omega) _) | (refine below_of (by assumption) ?_)))⟩
  | true =>
    have ho := Geo.ok_iff.1 hv
    have ho' := Lib.hid ho
    obtain ⟨r0, r1, b0, b1, t0, t1, s0, s1, _, _⟩ := ho
    simp only at r0 r1 b0 b1 t0 t1 s0 s1
    by_cases hin : (0 ≤ x ∧ x < b) ∧ (0 ≤ y ∧ y < t) ∧ 0 ≤ z ∧ z < s
    · have e0 := Lib.hid (Geo.adr_in ho'.out hin.1 hin.2.1 hin.2.2)
      have hbd := Geo.adr_bd hin.1 hin.2.1 b1 t1 s0 s1
      have w1 : wi x 0 (b - 1) = true := wi_true.2 (by omega)
      have w2 : wi y 0 (t - 1) = true := wi_true.2 (by omega)
      have w3 : wi z 0 (s - 1) = true := wi_true.2 (by omega)
      obtain ⟨⟨x0, x1⟩, ⟨y0, y1⟩, z0, z1⟩ := hin
      obtain ⟨⟨m0, m1⟩, m2, m3⟩ := hbd
      go_enter Tryz.func100, Tryz.ntmps100
      go_wp2_with (first | ((go_at_call 77; refine (valid_any _ _ _ _ _ _).mono ?_; rintro e w' ⟨rfl, hb⟩); obtain ⟨hc, hf, hz⟩ := bcell hb) | (go_at_call 96; refine (within_any _ _ _ _).mono ?_; rintro e w' ⟨rfl, rfl⟩))
      go_ret2
      exact ⟨by rw [e0.out]; rfl, (by repeat (first | (with_reducible exact Below.refl _ _) | (with_reducible refine Below.drew ?_) | (with_reducible refine below_drw ?_ _) | (with_reducible refine below_alloc ?_ _) | (with_reducible refine below_set ?_ (by simp <;> omega) _) | (refine below_of (by assumption) ?_)))⟩
    · rw [Geo.adr_out ho'.out hin]
      have hin' := Lib.hid hin
      clear hin
      go_enter Tryz.func100, Tryz.ntmps100
      go_wp2_with (first | ((go_at_call 77; refine (valid_any _ _ _ _ _ _).mono ?_; rintro e w' ⟨rfl, hb⟩); obtain ⟨hc, hf, hz⟩ := bcell hb) | (go_at_call 96; refine (within_any _ _ _ _).mono ?_; rintro e w' ⟨rfl, rfl⟩))
      all_goals first
        | (go_ret2; exact ⟨rfl, (by repeat (first | (with_reducible exact Below.refl _ _) | (with_reducible refine Below.drew ?_) | (with_reducible refine below_drw ?_ _) | (with_reducible refine below_alloc ?_ _) | (with_reducible refine below_set ?_ (by simp <;> omega) _) | (refine below_of (by assumption) ?_)))⟩)
        | (exfalso; refine hin'.out ?_; simp_all [wi_true]; omega)
        | (exfalso; refine hin'.out ?_; omega)

set_option maxHeartbeats 2000000 in
theorem raddress_any (r b t s o x y z : Int) (w : World) : Calls Tryz.prog 104 #[.agg #[.int .i64 r, .int .i64 b, .int .i64 t, .int .i64 s, .int .i64 o], .int .i64 x, .int .i64 y, .int .i64 z] w fun e w' =>
    e = .returned (.tuple #[.int .i64 ((Geo.mk r b t s o).adr x y z).1, .int .i64 ((Geo.mk r b t s o).adr x y z).2]) ∧ Below w.heap.size w w' := by
  cases hv : (Geo.mk r b t s o).ok with
  | false =>
    rw [Geo.adr_no hv]
    go_enter Tryz.func104, Tryz.ntmps104
    go_wp2_with ((go_at_call 22; refine (rvalid_any _ _ _ _ _ _).mono ?_; rintro e w' ⟨rfl, hb⟩); obtain ⟨hc, hf, hz⟩ := bcell hb)
    go_ret2
    exact ⟨rfl, (by repeat (first | (with_reducible exact Below.refl _ _) | (with_reducible refine Below.drew ?_) | (with_reducible refine below_drw ?_ _) | (with_reducible refine below_alloc ?_ _) | (with_reducible refine below_set ?_ (by simp <;> omega) _) | (refine below_of (by assumption) ?_)))⟩
  | true =>
    have ho := Geo.ok_iff.1 hv
    have ho' := Lib.hid ho
    obtain ⟨r0, r1, b0, b1, t0, t1, s0, s1, _, _⟩ := ho
    simp only at r0 r1 b0 b1 t0 t1 s0 s1
    by_cases hin : (0 ≤ x ∧ x < b) ∧ (0 ≤ y ∧ y < t) ∧ 0 ≤ z ∧ z < s
    · have e0 := Lib.hid (Geo.adr_in ho'.out hin.1 hin.2.1 hin.2.2)
      have hbd := Geo.adr_bd hin.1 hin.2.1 b1 t1 s0 s1
      have w1 : wi x 0 (b - 1) = true := wi_true.2 (by omega)
      have w2 : wi y 0 (t - 1) = true := wi_true.2 (by omega)
      have w3 : wi z 0 (s - 1) = true := wi_true.2 (by omega)
      obtain ⟨⟨x0, x1⟩, ⟨y0, y1⟩, z0, z1⟩ := hin
      obtain ⟨⟨m0, m1⟩, m2, m3⟩ := hbd
      go_enter Tryz.func104, Tryz.ntmps104
      go_wp2_with ((go_at_call 22; refine (rvalid_any _ _ _ _ _ _).mono ?_; rintro e w' ⟨rfl, hb⟩); obtain ⟨hc, hf, hz⟩ := bcell hb)
      go_ret2
      exact ⟨by rw [e0.out]; rfl, (by repeat (first | (with_reducible exact Below.refl _ _) | (with_reducible refine Below.drew ?_) | (with_reducible refine below_drw ?_ _) | (with_reducible refine below_alloc ?_ _) | (with_reducible refine below_set ?_ (by simp <;> omega) _) | (refine below_of (by assumption) ?_)))⟩
    · rw [Geo.adr_out ho'.out hin]
      have hin' := Lib.hid hin
      clear hin
      go_enter Tryz.func104, Tryz.ntmps104
      go_wp2_with ((go_at_call 22; refine (rvalid_any _ _ _ _ _ _).mono ?_; rintro e w' ⟨rfl, hb⟩); obtain ⟨hc, hf, hz⟩ := bcell hb)
      all_goals first
        | (go_ret2; exact ⟨rfl, (by repeat (first | (with_reducible exact Below.refl _ _) | (with_reducible refine Below.drew ?_) | (with_reducible refine below_drw ?_ _) | (with_reducible refine below_alloc ?_ _) | (with_reducible refine below_set ?_ (by simp <;> omega) _) | (refine below_of (by assumption) ?_)))⟩)
        | (exfalso; refine hin'.out ?_; simp_all [wi_true]; omega)
        | (exfalso; refine hin'.out ?_; omega)

end Go.Proofs.YtmloiifnadaaoaaGreat
/- The walks of package geometry, the third part: Shadow. -/
namespace Go.Proofs.YtmloiifnadaaoaaGreat
open Go.RowKit
set_option linter.unusedVariables false
set_option linter.unusedSimpArgs false

theorem Tryz.info3 : (Tryz.prog.info? 3).map (fun i => (i.zero, i.size, i.bytes)) = some (some (.int .i64 0), 1, 8) := by kernel_rfl

theorem owns_mono {w : World} {b b' : Nat} (h : b' ≤ b) {e : TypeId} {size : Nat} {v : Value} {n : Nat} {xs : List Value} (ho : w.ownsRow b e size v n xs) : w.ownsRow b' e size v n xs := by
  refine ⟨ho.1, ?_⟩
  rcases ho.2 with h2 | ⟨g, cap, cur, hv, hg, r⟩
  · exact .inl h2
  · exact .inr ⟨g, cap, cur, hv, Nat.le_trans h hg, r⟩

/-- A list of ints that a call made. -/
def IntsAt (w : World) (base : Nat) (v : Value) (l : List Int) : Prop := w.ownsRow base 3 1 v l.length (l.map (Value.int .i64))

theorem one_cell_new (w : World) (u : Value) (t : TypeId) : ∀ j x, [u][j]? = some x → (w.alloc (.cells #[u] t)).cell? ((⟨w.heap.size, 0, none⟩ : Addr).add j) = some x := by
  intro j x hj
  match j, hj with
  | 0, hj =>
    have : u = x := by simpa using hj
    subst this
    rw [Addr.add_lit, World.cell?_alloc_at _ _ _ _ (by simp)]
    rfl

namespace Geo
theorem shadow_take {g : Geo} {a : Int} {j : Nat} (h : j < g.nsh a) : (g.shadow a).take (j + 1) = (g.shadow a).take j ++ [a + ((j : Int) + 1) * g.s] := by
  unfold shadow
  rw [List.take_succ_eq_append_getElem (by simpa using h)]
  simp
theorem shadow_len (g : Geo) (a : Int) : (g.shadow a).length = g.nsh a := by simp [shadow]
theorem nsh_lt {g : Geo} {a : Int} (h : g.inBand a = true) (j : Nat) : (j : Int) + 1 ≤ g.o ∧ (g.place a).2.1 + ((j : Int) + 1) < g.t ↔ j < g.nsh a := by
  unfold nsh
  rw [if_pos h]
  have := (inBand_iff.1 h).1.o0
  have := place_bd h
  omega
end Geo

set_option maxHeartbeats 1000000 in
set_option maxRecDepth 1000000 in
theorem shadow_any (r b t s o a : Int) (w : World) : Calls Tryz.prog 99 #[.agg #[.int .i64 r, .int .i64 b, .int .i64 t, .int .i64 s, .int .i64 o], .int .i64 a] w fun e w' =>
    ∃ v, e = .returned v ∧ IntsAt w' w.heap.size v ((Geo.mk r b t s o).shadow a) ∧ Below w.heap.size w w' := by
  cases hi : (Geo.mk r b t s o).inBand a with
  | false =>
    have e0 : (Geo.mk r b t s o).shadow a = [] := by unfold Geo.shadow Geo.nsh; rw [if_neg (by rw [hi]; decide)]; rfl
    rw [e0]
    clear e0
    have e1 : ∃ c, c ≠ 0 ∧ (Geo.mk r b t s o).loc a = (0, 0, 0, c) := by
      unfold Geo.loc
      split
      · exact ⟨1, by decide, rfl⟩
      · exact ⟨2, by decide, by simp only [hi, if_true]⟩
    obtain ⟨c, hc0, e1⟩ := e1
    have e2 := Lib.hid e1
    clear e1
    go_enter Tryz.func99, Tryz.ntmps99
    go_wp2_with ((go_at_call 102; refine (locate_any _ _ _ _ _ _ _).mono ?_; rintro e w' ⟨rfl, hb⟩); rw [e2.out]; obtain ⟨hc, hf, hz⟩ := bcell hb)
    go_ret
    exact ⟨_, rfl, World.ownsRow_nil _ _ _ _, (by repeat (first | (with_reducible exact Below.refl _ _) | (with_reducible refine Below.drew ?_) | (with_reducible refine below_drw ?_ _) | (with_reducible refine below_alloc ?_ _) | (with_reducible refine below_set ?_ (by simp <;> omega) _) | (refine below_of (by assumption) ?_)))⟩
  | true =>
    have e1 : (Geo.mk r b t s o).loc a = (((Geo.mk r b t s o).place a).1, ((Geo.mk r b t s o).place a).2.1, ((Geo.mk r b t s o).place a).2.2, 0) := by
      unfold Geo.loc; rw [if_neg (by rw [Geo.ok_iff.2 (Geo.inBand_iff.1 hi).1]; decide), if_neg (by rw [hi]; decide)]
    have e2 := Lib.hid e1
    clear e1
    have hlt := Lib.hid (Geo.nsh_lt hi)
    have htk := Lib.hid (fun j h => Geo.shadow_take (g := Geo.mk r b t s o) (a := a) (j := j) h)
    have hle := Geo.nsh_le (Geo.mk r b t s o) a
    have hpl := Geo.place_bd hi
    have hle2 : (Geo.mk r b t s o).size ≤ 81920 := (Geo.size_bd _).2
    obtain ⟨ho, ha0, ha1⟩ := Geo.inBand_iff.1 hi
    have hbt := ho.bts
    obtain ⟨r0, r1, b0, b1, t0, t1, s0, s1, o0, o1⟩ := ho
    obtain ⟨_, _, p0, p1, _, _⟩ := hpl
    simp only at r0 r1 b0 b1 t0 t1 s0 s1 o0 o1 p1 ha0 ha1 hbt
    have hsh := Lib.hid (Geo.shadow_len (Geo.mk r b t s o) a)
    obtain ⟨i0, hinf, hz0, hz1, hz2⟩ := info_parts Tryz.info3
    generalize hN : (Geo.mk r b t s o).nsh a = N at *
    generalize hP : ((Geo.mk r b t s o).place a).2.1 = p at *
    generalize hS : (Geo.mk r b t s o).shadow a = S at *
    clear hN hS
    clear hP
    go_enter Tryz.func99, Tryz.ntmps99
    go_wp2_with ((go_at_call 102; refine (locate_any _ _ _ _ _ _ _).mono ?_; rintro e w' ⟨rfl, hb⟩); rw [e2.out]; obtain ⟨hc, hf, hz⟩ := bcell hb)
    go_loopw [9, 10] (fun v k wr => ∃ j : Nat, j ≤ N ∧ k = .int .i64 ((j : Int) + 1) ∧ wr.ownsRow w'.heap.size 3 1 v (S.take j).length ((S.take j).map (Value.int .i64)) ∧ Below w'.heap.size w' wr)
      (fun _ k _ => N + 1 - (intOf k).toNat)
    case atStart => exact ⟨0, Nat.zero_le _, rfl, World.ownsRow_nil _ _ _ _, Below.refl _ _⟩
    case round =>
      obtain ⟨j, hj, rfl, hown, hbw⟩ := hrel
      obtain ⟨hc1, hf1, hz1'⟩ := bcell hbw
      have hl := hlt.out j
      by_cases hjn : j < N
      · have hk := hl.2 hjn
        obtain ⟨hk1, hk2⟩ := hk
        clear hl
        have hm0 : 0 ≤ ((j : Int) + 1) * s := Int.mul_nonneg (by omega) (by omega)
        have hm1 : ((j : Int) + 1) * s ≤ 3 * 64 := Int.mul_le_mul (by omega) s1 (by omega) (by omega)
        go_wp2_with (at_builtin; refine wpList_append_own _ rfl _ _ 135 rfl w'.heap.size 3 i0 (.int .i64 0) 1 8 Tryz.underlying135 hinf hz0 hz1 hz2 rfl (by decide) _ _ _ rfl (hown.alloc _) ⟨wr.heap.size, 0, none⟩ 1 1 [.int .i64 (a + ((j : Int) + 1) * s)] rfl rfl (one_cell_new _ _ _) ?c2 ?c3 ?c4 ?c5 ?_)
        case c2 => intro u hu; simp at hu; subst hu; rfl
        case c3 => rw [List.length_take]; unfold maxLen; omega
        case c4 => rw [List.length_take]; omega
        case c5 => have := hbw.size; simp; omega
        intro v' w2 hown' hgrow _
        have hbw2 : Below w'.heap.size w' w2 := (hbw.alloc hbw.size _).grown hgrow (by have := hbw.size; simp; omega) (fun k hk => (hown.lt k hk).1)
        have hown2 : w2.ownsRow w'.heap.size 3 1 v' (S.take (j + 1)).length ((S.take (j + 1)).map (Value.int .i64)) := by
          rw [htk.out j hjn, List.length_append, List.map_append]
          simpa [List.map_take] using hown'
        clear hown' hgrow hown
        go_wp2
        go_roundw
        case rel => exact ⟨j + 1, by omega, by go_num, hown2, hbw2⟩
        case measure => simp [intOf]; omega
      · have hkn := fun h => hjn (hl.1 h)
        clear hl
        have hjN : j = N := by omega
        have htot : S.take j = S := by rw [hjN, ← hsh.out]; exact List.take_length
        rw [htot] at hown
        have Hown := Lib.hid hown
        clear hown htot hjN
        go_wp2_with fail
        all_goals first
          | (exact absurd ⟨by assumption, by assumption⟩ hkn)
          | (go_ret; exact ⟨_, rfl, owns_mono (by have := hb.size; simp at this; omega) Hown.out, (by repeat (first | (with_reducible exact Below.refl _ _) | (with_reducible refine Below.drew ?_) | (with_reducible refine below_drw ?_ _) | (with_reducible refine below_alloc ?_ _) | (with_reducible refine below_set ?_ (by simp <;> omega) _) | (refine below_of (by assumption) ?_)))⟩)
end Go.Proofs.YtmloiifnadaaoaaGreat
/- The walks of the reference of package geometry: Ints, Locate, Shadow. -/
namespace Go.Proofs.YtmloiifnadaaoaaGreat
open Go.RowKit
set_option linter.unusedVariables false
set_option linter.unusedSimpArgs false

/-- The cells behind A read as the ints l. -/
def IntsRd (w : World) (A : Option Addr) (l : List Int) : Prop :=
  l.length ≤ 9223372036854775807 ∧ (l = [] ∨ ∃ g off, A = some ⟨g, off, none⟩ ∧ ∀ i x, l[i]? = some x → w.cell? ⟨g, off + i, none⟩ = some (.int .i64 x))

theorem intsRd_of {w : World} {base : Nat} {v : Value} {l : List Int} (h : IntsAt w base v l) : ∃ A c, v = .slice A l.length c ∧ IntsRd w A l := by
  rcases h.2 with ⟨rfl, hn⟩ | ⟨g, cap, cur, rfl, _, hg, hn, hcap, hcur, htk⟩
  · exact ⟨none, 0, by rw [hn], by rw [hn]; omega, .inl (List.eq_nil_of_length_eq_zero hn)⟩
  · refine ⟨some ⟨g, 0, none⟩, cap, rfl, by simp only [maxLen] at hcap; omega, .inr ⟨g, 0, rfl, fun i x hx => ?_⟩⟩
    rw [cell_of_row w g _ cur _ _ hg]
    have : (l.map (Value.int .i64))[i]? = some (.int .i64 x) := by rw [List.getElem?_map, hx]; rfl
    rw [← htk, List.getElem?_take] at this
    split at this
    · simpa using this
    · cases this

theorem intsRd_keep {w w' : World} (hb : Below w.heap.size w w') {A : Option Addr} {l : List Int} (h : IntsRd w A l) : IntsRd w' A l := by
  refine ⟨h.1, h.2.imp id ?_⟩
  rintro ⟨g, off, rfl, hc⟩
  exact ⟨g, off, rfl, fun i x hx => cell_later hb (hc i x hx)⟩

def sameInts (l k : List Int) : Bool := decide (l = k)

namespace Geo
theorem loc_in {g : Geo} {a : Int} (h : g.inBand a = true) : g.loc a = ((g.place a).1, (g.place a).2.1, (g.place a).2.2, 0) := by
  unfold loc; rw [if_neg (by rw [ok_iff.2 (inBand_iff.1 h).1]; decide), if_neg (by rw [h]; decide)]
theorem loc_out {g : Geo} {a : Int} (ho : g.Ok) (h : g.inBand a = false) : g.loc a = (0, 0, 0, 2) := by
  unfold loc; rw [if_neg (by rw [ok_iff.2 ho]; decide), if_pos h]
theorem loc_no {g : Geo} (a : Int) (h : g.ok = false) : g.loc a = (0, 0, 0, 1) := by unfold loc; rw [if_pos h]
end Geo

set_option maxHeartbeats 2000000 in
theorem rlocate_any (r b t s o a : Int) (w : World) : Calls Tryz.prog 103 #[.agg #[.int .i64 r, .int .i64 b, .int .i64 t, .int .i64 s, .int .i64 o], .int .i64 a] w fun e w' =>
    e = .returned (.tuple #[.int .i64 ((Geo.mk r b t s o).loc a).1, .int .i64 ((Geo.mk r b t s o).loc a).2.1, .int .i64 ((Geo.mk r b t s o).loc a).2.2.1, .int .i64 ((Geo.mk r b t s o).loc a).2.2.2]) ∧ Below w.heap.size w w' := by
  cases hv : (Geo.mk r b t s o).ok with
  | false =>
    rw [Geo.loc_no a hv]
    go_enter Tryz.func103, Tryz.ntmps103
    go_wp2_with ((go_at_call 22; refine (rvalid_any _ _ _ _ _ _).mono ?_; rintro e w' ⟨rfl, hb⟩); obtain ⟨hc, hf, hz⟩ := bcell hb)
    refine bodyPost_ret (results_tmp4 rfl _ _ _) rfl ?_
    exact ⟨rfl, (by repeat (first | (with_reducible exact Below.refl _ _) | (with_reducible refine Below.drew ?_) | (with_reducible refine below_drw ?_ _) | (with_reducible refine below_alloc ?_ _) | (with_reducible refine below_set ?_ (by simp <;> omega) _) | (refine below_of (by assumption) ?_)))⟩
  | true =>
    have ho := Geo.ok_iff.1 hv
    have hsz := Lib.hid (Geo.size_ok ho)
    have hbs := Lib.hid (Geo.bs_ok ho)
    cases hi : (Geo.mk r b t s o).inBand a with
    | false =>
      rw [Geo.loc_out ho hi]
      have hw : ¬ (r ≤ a ∧ a < r + b * (t * s)) := fun h => by rw [Geo.inBand_iff.2 ⟨ho, h.1, h.2⟩] at hi; cases hi
      by_cases hra : a < r
      · go_enter Tryz.func103, Tryz.ntmps103
        go_wp2_with ((go_at_call 22; refine (rvalid_any _ _ _ _ _ _).mono ?_; rintro e w' ⟨rfl, hb⟩); obtain ⟨hc, hf, hz⟩ := bcell hb)
        refine bodyPost_ret (results_tmp4 rfl _ _ _) rfl ?_
        exact ⟨rfl, (by repeat (first | (with_reducible exact Below.refl _ _) | (with_reducible refine Below.drew ?_) | (with_reducible refine below_drw ?_ _) | (with_reducible refine below_alloc ?_ _) | (with_reducible refine below_set ?_ (by simp <;> omega) _) | (refine below_of (by assumption) ?_)))⟩
      · have hge : r + b * (t * s) ≤ a := by omega
        clear hw
        go_enter Tryz.func103, Tryz.ntmps103
        go_wp2_with (first | (go_at_call 22; refine (rvalid_any _ _ _ _ _ _).mono ?_; rintro e w' ⟨rfl, hb⟩; (first | ((first | have hB1 := below_of hb hB | have hB1 := below_of hb (Below.drew hB) | have hB1 := below_of hb (below_drw hB _)); clear hB hb hc hf hz; have hB := hB1; clear hB1; obtain ⟨hc, hf, hz⟩ := bcell hB) | ((first | have hB1 := below_of hb (below_alloc hB _) | have hB1 := below_of hb (below_alloc (below_alloc hB _) _) | have hB1 := below_of hb (below_alloc (below_alloc (below_alloc hB _) _) _) | have hB1 := below_of hb (below_alloc (below_alloc (below_alloc (below_alloc hB _) _) _) _) | have hB1 := below_of hb (below_alloc (below_alloc (below_alloc (below_alloc (below_alloc hB _) _) _) _) _) | have hB1 := below_of hb (Below.drew (below_alloc hB _)) | have hB1 := below_of hb (Below.drew (below_alloc (below_alloc hB _) _)) | have hB1 := below_of hb (Below.drew (below_alloc (below_alloc (below_alloc hB _) _) _)) | have hB1 := below_of hb (Below.drew (below_alloc (below_alloc (below_alloc (below_alloc hB _) _) _) _)) | have hB1 := below_of hb (Below.drew (below_alloc (below_alloc (below_alloc (below_alloc (below_alloc hB _) _) _) _) _)) | have hB1 := below_of hb (below_drw (below_alloc hB _) _) | have hB1 := below_of hb (below_drw (below_alloc (below_alloc hB _) _) _) | have hB1 := below_of hb (below_drw (below_alloc (below_alloc (below_alloc hB _) _) _) _) | have hB1 := below_of hb (below_drw (below_alloc (below_alloc (below_alloc (below_alloc hB _) _) _) _) _) | have hB1 := below_of hb (below_drw (below_alloc (below_alloc (below_alloc (below_alloc (below_alloc hB _) _) _) _) _) _)); clear hB hc hf hz; have hB := hB1; clear hB1; obtain ⟨hc, hf, hz⟩ := bcell hB; obtain ⟨hc_, hf_, hz_⟩ := bcell hb; clear hb) | (have hB := hb; clear hb; obtain ⟨hc, hf, hz⟩ := bcell hB))) | (go_at_call 23; refine (rsize_any _ _ _ _ _ _).mono ?_; rintro e w' ⟨rfl, hb⟩; rw [hsz.out]; (first | ((first | have hB1 := below_of hb hB | have hB1 := below_of hb (Below.drew hB) | have hB1 := below_of hb (below_drw hB _)); clear hB hb hc hf hz; have hB := hB1; clear hB1; obtain ⟨hc, hf, hz⟩ := bcell hB) | ((first | have hB1 := below_of hb (below_alloc hB _) | have hB1 := below_of hb (below_alloc (below_alloc hB _) _) | have hB1 := below_of hb (below_alloc (below_alloc (below_alloc hB _) _) _) | have hB1 := below_of hb (below_alloc (below_alloc (below_alloc (below_alloc hB _) _) _) _) | have hB1 := below_of hb (below_alloc (below_alloc (below_alloc (below_alloc (below_alloc hB _) _) _) _) _) | have hB1 := below_of hb (Below.drew (below_alloc hB _)) | have hB1 := below_of hb (Below.drew (below_alloc (below_alloc hB _) _)) | have hB1 := below_of hb (Below.drew (below_alloc (below_alloc (below_alloc hB _) _) _)) | have hB1 := below_of hb (Below.drew (below_alloc (below_alloc (below_alloc (below_alloc hB _) _) _) _)) | have hB1 := below_of hb (Below.drew (below_alloc (below_alloc (below_alloc (below_alloc (below_alloc hB _) _) _) _) _)) | have hB1 := below_of hb (below_drw (below_alloc hB _) _) | have hB1 := below_of hb (below_drw (below_alloc (below_alloc hB _) _) _) | have hB1 := below_of hb (below_drw (below_alloc (below_alloc (below_alloc hB _) _) _) _) | have hB1 := below_of hb (below_drw (below_alloc (below_alloc (below_alloc (below_alloc hB _) _) _) _) _) | have hB1 := below_of hb (below_drw (below_alloc (below_alloc (below_alloc (below_alloc (below_alloc hB _) _) _) _) _) _)); clear hB hc hf hz; have hB := hB1; clear hB1; obtain ⟨hc, hf, hz⟩ := bcell hB; obtain ⟨hc_, hf_, hz_⟩ := bcell hb; clear hb) | (have hB := hb; clear hb; obtain ⟨hc, hf, hz⟩ := bcell hB))))
        refine bodyPost_ret (results_tmp4 rfl _ _ _) rfl ?_
        exact ⟨rfl, (by repeat (first | (with_reducible exact Below.refl _ _) | (with_reducible refine Below.drew ?_) | (with_reducible refine below_drw ?_ _) | (with_reducible refine below_alloc ?_ _) | (with_reducible refine below_set ?_ (by simp <;> omega) _) | (refine below_of (by assumption) ?_)))⟩
    | true =>
      have e1 := Lib.hid (Geo.loc_in hi)
      obtain ⟨_, hp1, hp2⟩ := Geo.inBand_iff.1 hi
      have hbt := ho.bts
      have hts := ho.ts
      obtain ⟨r0, r1, b0, b1, t0, t1, s0, s1, _, _⟩ := ho
      simp only at r0 r1 b0 b1 t0 t1 s0 s1 hp1 hp2 hbt hts
      have q0 : 0 ≤ (a - r) / s := Int.ediv_nonneg (by omega) (by omega)
      have q1 : (a - r) / s ≤ 65536 := by
        have := Int.ediv_le_self s (show 0 ≤ a - r by omega)
        omega
      have q2 : 0 ≤ (a - r) / (t * s) := Int.ediv_nonneg (by omega) (by omega)
      have q3 : (a - r) / (t * s) ≤ 65536 := by
        have := Int.ediv_le_self (t * s) (show 0 ≤ a - r by omega)
        omega
      have e2 : (a - r) / (t * s) = (a - r) / s / t := by rw [Int.mul_comm, Int.ediv_ediv_of_nonneg (by omega)]
      have e3 := Lib.hid e2
      clear e2
      have D1 : IntKind.i64.wrap ((a - r).tdiv (t * s)) = (a - r) / s / t := by rw [Int.tdiv_eq_ediv_of_nonneg (by omega), IntWalk.i64_in _ (by omega)]; exact e3.out
      have D2 : (IntKind.i64.wrap ((a - r).tdiv s)).tmod t = (a - r) / s % t := by rw [Int.tdiv_eq_ediv_of_nonneg (by omega), IntWalk.i64_in _ (by omega), Int.tmod_eq_emod_of_nonneg q0]
      have D3 : (a - r).tmod s = (a - r) % s := Int.tmod_eq_emod_of_nonneg (by omega)
      have H1 := Lib.hid D1
      have H2 := Lib.hid D2
      have H3 := Lib.hid D3
      clear D1 D2 D3
      have ns : ¬ s = 0 := by omega
      have nt : ¬ t = 0 := by omega
      have nts : ¬ t * s = 0 := by omega
      go_enter Tryz.func103, Tryz.ntmps103
      go_wp2_with (first | (go_at_call 22; refine (rvalid_any _ _ _ _ _ _).mono ?_; rintro e w' ⟨rfl, hb⟩; (first | ((first | have hB1 := below_of hb hB | have hB1 := below_of hb (Below.drew hB) | have hB1 := below_of hb (below_drw hB _)); clear hB hb hc hf hz; have hB := hB1; clear hB1; obtain ⟨hc, hf, hz⟩ := bcell hB) | ((first | have hB1 := below_of hb (below_alloc hB _) | have hB1 := below_of hb (below_alloc (below_alloc hB _) _) | have hB1 := below_of hb (below_alloc (below_alloc (below_alloc hB _) _) _) | have hB1 := below_of hb (below_alloc (below_alloc (below_alloc (below_alloc hB _) _) _) _) | have hB1 := below_of hb (below_alloc (below_alloc (below_alloc (below_alloc (below_alloc hB _) _) _) _) _) | have hB1 := below_of hb (Below.drew (below_alloc hB _)) | have hB1 := below_of hb (Below.drew (below_alloc (below_alloc hB _) _)) | have hB1 := below_of hb (Below.drew (below_alloc (below_alloc (below_alloc hB _) _) _)) | have hB1 := below_of hb (Below.drew (below_alloc (below_alloc (below_alloc (below_alloc hB _) _) _) _)) | have hB1 := below_of hb (Below.drew (below_alloc (below_alloc (below_alloc (below_alloc (below_alloc hB _) _) _) _) _)) | have hB1 := below_of hb (below_drw (below_alloc hB _) _) | have hB1 := below_of hb (below_drw (below_alloc (below_alloc hB _) _) _) | have hB1 := below_of hb (below_drw (below_alloc (below_alloc (below_alloc hB _) _) _) _) | have hB1 := below_of hb (below_drw (below_alloc (below_alloc (below_alloc (below_alloc hB _) _) _) _) _) | have hB1 := below_of hb (below_drw (below_alloc (below_alloc (below_alloc (below_alloc (below_alloc hB _) _) _) _) _) _)); clear hB hc hf hz; have hB := hB1; clear hB1; obtain ⟨hc, hf, hz⟩ := bcell hB; obtain ⟨hc_, hf_, hz_⟩ := bcell hb; clear hb) | (have hB := hb; clear hb; obtain ⟨hc, hf, hz⟩ := bcell hB))) | (go_at_call 23; refine (rsize_any _ _ _ _ _ _).mono ?_; rintro e w' ⟨rfl, hb⟩; rw [hsz.out]; (first | ((first | have hB1 := below_of hb hB | have hB1 := below_of hb (Below.drew hB) | have hB1 := below_of hb (below_drw hB _)); clear hB hb hc hf hz; have hB := hB1; clear hB1; obtain ⟨hc, hf, hz⟩ := bcell hB) | ((first | have hB1 := below_of hb (below_alloc hB _) | have hB1 := below_of hb (below_alloc (below_alloc hB _) _) | have hB1 := below_of hb (below_alloc (below_alloc (below_alloc hB _) _) _) | have hB1 := below_of hb (below_alloc (below_alloc (below_alloc (below_alloc hB _) _) _) _) | have hB1 := below_of hb (below_alloc (below_alloc (below_alloc (below_alloc (below_alloc hB _) _) _) _) _) | have hB1 := below_of hb (Below.drew (below_alloc hB _)) | have hB1 := below_of hb (Below.drew (below_alloc (below_alloc hB _) _)) | have hB1 := below_of hb (Below.drew (below_alloc (below_alloc (below_alloc hB _) _) _)) | have hB1 := below_of hb (Below.drew (below_alloc (below_alloc (below_alloc (below_alloc hB _) _) _) _)) | have hB1 := below_of hb (Below.drew (below_alloc (below_alloc (below_alloc (below_alloc (below_alloc hB _) _) _) _) _)) | have hB1 := below_of hb (below_drw (below_alloc hB _) _) | have hB1 := below_of hb (below_drw (below_alloc (below_alloc hB _) _) _) | have hB1 := below_of hb (below_drw (below_alloc (below_alloc (below_alloc hB _) _) _) _) | have hB1 := below_of hb (below_drw (below_alloc (below_alloc (below_alloc (below_alloc hB _) _) _) _) _) | have hB1 := below_of hb (below_drw (below_alloc (below_alloc (below_alloc (below_alloc (below_alloc hB _) _) _) _) _) _)); clear hB hc hf hz; have hB := hB1; clear hB1; obtain ⟨hc, hf, hz⟩ := bcell hB; obtain ⟨hc_, hf_, hz_⟩ := bcell hb; clear hb) | (have hB := hb; clear hb; obtain ⟨hc, hf, hz⟩ := bcell hB))))
      go_region_held3 (fun W_ => (∀ b_ o_, b_ < (w').heap.size → W_.cell? ⟨b_, o_, none⟩ = (w').cell? ⟨b_, o_, none⟩) ∧ (∀ b_ o_, b_ < (w').heap.size → W_.frozen? ⟨b_, o_, none⟩ = (w').frozen? ⟨b_, o_, none⟩) ∧ (∀ k_, k_ < (w').heap.size → k_ < W_.heap.size) ∧ Below (w').heap.size (w') W_) (first | exact held_start _ | assumption | exact held_keep (by assumption) (by assumption) | exact held_keep (by assumption) ((Below.refl _ _).alloc (Nat.le_refl _) _) | exact held_of (by assumption)) (first | ((go_at_call 58; refine (rbandSize_any _ _ _ _ _ _).mono ?_; rintro e w' ⟨rfl, hb1⟩); rw [hbs.out]))
      all_goals go_wp2
      all_goals refine bodyPost_ret (results_tmp4 rfl _ _ _) rfl ?_
      all_goals refine ⟨?_, (by repeat (first | (with_reducible exact Below.refl _ _) | (with_reducible refine Below.drew ?_) | (with_reducible refine below_drw ?_ _) | (with_reducible refine below_alloc ?_ _) | (with_reducible refine below_set ?_ (by simp <;> omega) _) | (refine below_of (by assumption) ?_)))⟩
      all_goals (rw [e1.out]; simp only [Geo.place, H1.out, H2.out, H3.out]; rfl)
end Go.Proofs.YtmloiifnadaaoaaGreat
/- The walks of the reference of package geometry: Shadow; the example. -/
namespace Go.Proofs.YtmloiifnadaaoaaGreat
open Go.RowKit
set_option linter.unusedVariables false
set_option linter.unusedSimpArgs false

namespace Geo
theorem shadow_no {g : Geo} {a : Int} (h : g.inBand a = false) : g.shadow a = [] := by unfold shadow nsh; rw [if_neg (by rw [h]; decide)]; rfl
theorem loc_err {g : Geo} {a : Int} (h : g.inBand a = false) : ∃ c, c ≠ 0 ∧ g.loc a = (0, 0, 0, c) := by
  unfold loc
  split
  · exact ⟨1, by decide, rfl⟩
  · exact ⟨2, by decide, by simp only [h, if_true]⟩
theorem nsh_o {g : Geo} {a : Int} (h : g.inBand a = true) : (g.nsh a : Int) ≤ g.o := by
  unfold nsh
  rw [if_pos h]
  have := (inBand_iff.1 h).1.o0
  have := place_bd h
  omega
/-- The address in the j-th track behind, if there is one. -/
theorem adr_shadow {g : Geo} {a : Int} (h : g.inBand a = true) (j : Nat) :
    g.adr (g.place a).1 ((g.place a).2.1 + ((j : Int) + 1)) (g.place a).2.2 = if (g.place a).2.1 + ((j : Int) + 1) < g.t then (a + ((j : Int) + 1) * g.s, 0) else (0, 2) := by
  obtain ⟨ho, _, _⟩ := inBand_iff.1 h
  obtain ⟨b0, b1, t0, t1, p0, p1⟩ := place_bd h
  split
  · rename_i hlt
    rw [adr_in ho ⟨b0, b1⟩ ⟨by omega, hlt⟩ ⟨p0, p1⟩]
    have := place_eq (a := a) ho
    have e : (g.place a).1 * g.t + ((g.place a).2.1 + ((j : Int) + 1)) = ((g.place a).1 * g.t + (g.place a).2.1) + ((j : Int) + 1) := by omega
    rw [e, Int.add_mul _ _ g.s]
    congr 1
    omega
  · rename_i hge
    rw [adr_out ho (fun hh => hge hh.2.1.2)]
end Geo

set_option maxHeartbeats 1000000 in
set_option maxRecDepth 1000000 in
theorem rshadow_any (r b t s o a : Int) (w : World) : Calls Tryz.prog 101 #[.agg #[.int .i64 r, .int .i64 b, .int .i64 t, .int .i64 s, .int .i64 o], .int .i64 a] w fun e w' =>
    ∃ v, e = .returned v ∧ IntsAt w' w.heap.size v ((Geo.mk r b t s o).shadow a) ∧ Below w.heap.size w w' := by
  cases hi : (Geo.mk r b t s o).inBand a with
  | false =>
    rw [Geo.shadow_no hi]
    obtain ⟨c, hc0, e1⟩ := Geo.loc_err hi
    have e2 := Lib.hid e1
    clear e1
    have hc1 : (c == 0) = false := by simp [hc0]
    go_enter Tryz.func101, Tryz.ntmps101
    go_wp2_with ((go_at_call 103; refine (rlocate_any _ _ _ _ _ _ _).mono ?_; rintro e w' ⟨rfl, hb⟩; rw [e2.out]; (first | ((first | have hB1 := below_of hb hB | have hB1 := below_of hb (Below.drew hB) | have hB1 := below_of hb (below_drw hB _)); clear hB hb hc hf hz; have hB := hB1; clear hB1; obtain ⟨hc, hf, hz⟩ := bcell hB) | ((first | have hB1 := below_of hb (below_alloc hB _) | have hB1 := below_of hb (below_alloc (below_alloc hB _) _) | have hB1 := below_of hb (below_alloc (below_alloc (below_alloc hB _) _) _) | have hB1 := below_of hb (below_alloc (below_alloc (below_alloc (below_alloc hB _) _) _) _) | have hB1 := below_of hb (below_alloc (below_alloc (below_alloc (below_alloc (below_alloc hB _) _) _) _) _) | have hB1 := below_of hb (Below.drew (below_alloc hB _)) | have hB1 := below_of hb (Below.drew (below_alloc (below_alloc hB _) _)) | have hB1 := below_of hb (Below.drew (below_alloc (below_alloc (below_alloc hB _) _) _)) | have hB1 := below_of hb (Below.drew (below_alloc (below_alloc (below_alloc (below_alloc hB _) _) _) _)) | have hB1 := below_of hb (Below.drew (below_alloc (below_alloc (below_alloc (below_alloc (below_alloc hB _) _) _) _) _)) | have hB1 := below_of hb (below_drw (below_alloc hB _) _) | have hB1 := below_of hb (below_drw (below_alloc (below_alloc hB _) _) _) | have hB1 := below_of hb (below_drw (below_alloc (below_alloc (below_alloc hB _) _) _) _) | have hB1 := below_of hb (below_drw (below_alloc (below_alloc (below_alloc (below_alloc hB _) _) _) _) _) | have hB1 := below_of hb (below_drw (below_alloc (below_alloc (below_alloc (below_alloc (below_alloc hB _) _) _) _) _) _)); clear hB hc hf hz; have hB := hB1; clear hB1; obtain ⟨hc, hf, hz⟩ := bcell hB; obtain ⟨hc_, hf_, hz_⟩ := bcell hb; clear hb) | (have hB := hb; clear hb; obtain ⟨hc, hf, hz⟩ := bcell hB))))
    refine wp_loop_rounds 1 ?_
    rw [rounds_succ]
    go_wp2
    go_ret
    exact ⟨_, rfl, World.ownsRow_nil _ _ _ _, (by repeat (first | (with_reducible exact Below.refl _ _) | (with_reducible refine Below.drew ?_) | (with_reducible refine below_drw ?_ _) | (with_reducible refine below_alloc ?_ _) | (with_reducible refine below_set ?_ (by simp <;> omega) _) | (refine below_of (by assumption) ?_)))⟩
  | true =>
    have e2 := Lib.hid (Geo.loc_in hi)
    have hlt := Lib.hid (Geo.nsh_lt hi)
    have had := Lib.hid (Geo.adr_shadow hi)
    have hno := Geo.nsh_o hi
    have htk := Lib.hid (fun j h => Geo.shadow_take (g := Geo.mk r b t s o) (a := a) (j := j) h)
    have hsh := Lib.hid (Geo.shadow_len (Geo.mk r b t s o) a)
    have hpl := Geo.place_bd hi
    obtain ⟨ho, _, _⟩ := Geo.inBand_iff.1 hi
    obtain ⟨r0, r1, b0, b1, t0, t1, s0, s1, o0, o1⟩ := ho
    obtain ⟨_, _, p0, p1, _, _⟩ := hpl
    simp only at t0 t1 o0 o1 p1 hno
    obtain ⟨i0, hinf, hz0, hz1, hz2⟩ := info_parts Tryz.info3
    generalize hN : (Geo.mk r b t s o).nsh a = N at *
    generalize hX : ((Geo.mk r b t s o).place a).1 = x at *
    generalize hP : ((Geo.mk r b t s o).place a).2.1 = p at *
    generalize hY : ((Geo.mk r b t s o).place a).2.2 = y at *
    generalize hS : (Geo.mk r b t s o).shadow a = S at *
    clear hN hX hP hY hS
    go_enter Tryz.func101, Tryz.ntmps101
    go_wp2_with ((go_at_call 103; refine (rlocate_any _ _ _ _ _ _ _).mono ?_; rintro e w' ⟨rfl, hb⟩; rw [e2.out]; (first | ((first | have hB1 := below_of hb hB | have hB1 := below_of hb (Below.drew hB) | have hB1 := below_of hb (below_drw hB _)); clear hB hb hc hf hz; have hB := hB1; clear hB1; obtain ⟨hc, hf, hz⟩ := bcell hB) | ((first | have hB1 := below_of hb (below_alloc hB _) | have hB1 := below_of hb (below_alloc (below_alloc hB _) _) | have hB1 := below_of hb (below_alloc (below_alloc (below_alloc hB _) _) _) | have hB1 := below_of hb (below_alloc (below_alloc (below_alloc (below_alloc hB _) _) _) _) | have hB1 := below_of hb (below_alloc (below_alloc (below_alloc (below_alloc (below_alloc hB _) _) _) _) _) | have hB1 := below_of hb (Below.drew (below_alloc hB _)) | have hB1 := below_of hb (Below.drew (below_alloc (below_alloc hB _) _)) | have hB1 := below_of hb (Below.drew (below_alloc (below_alloc (below_alloc hB _) _) _)) | have hB1 := below_of hb (Below.drew (below_alloc (below_alloc (below_alloc (below_alloc hB _) _) _) _)) | have hB1 := below_of hb (Below.drew (below_alloc (below_alloc (below_alloc (below_alloc (below_alloc hB _) _) _) _) _)) | have hB1 := below_of hb (below_drw (below_alloc hB _) _) | have hB1 := below_of hb (below_drw (below_alloc (below_alloc hB _) _) _) | have hB1 := below_of hb (below_drw (below_alloc (below_alloc (below_alloc hB _) _) _) _) | have hB1 := below_of hb (below_drw (below_alloc (below_alloc (below_alloc (below_alloc hB _) _) _) _) _) | have hB1 := below_of hb (below_drw (below_alloc (below_alloc (below_alloc (below_alloc (below_alloc hB _) _) _) _) _) _)); clear hB hc hf hz; have hB := hB1; clear hB1; obtain ⟨hc, hf, hz⟩ := bcell hB; obtain ⟨hc_, hf_, hz_⟩ := bcell hb; clear hb) | (have hB := hb; clear hb; obtain ⟨hc, hf, hz⟩ := bcell hB))))
    go_loopw [9, 10] (fun v k wr => ∃ j : Nat, j ≤ o ∧ k = .int .i64 ((j : Int) + 1) ∧ wr.ownsRow w'.heap.size 3 1 v (S.take j).length ((S.take j).map (Value.int .i64)) ∧ Below w'.heap.size w' wr)
      (fun _ k _ => 4 - (intOf k).toNat)
    case atStart => exact ⟨0, by omega, rfl, World.ownsRow_nil _ _ _ _, Below.refl _ _⟩
    case round =>
      obtain ⟨j, hj, rfl, hown, hbw⟩ := hrel
      obtain ⟨hc1, hf1, hz1'⟩ := bcell hbw
      have hl := hlt.out j
      have Had := Lib.hid (had.out j)
      by_cases hjo : (j : Int) + 1 ≤ o
      · by_cases hjn : j < N
        · have hk2 := (hl.2 hjn).2
          clear hl
          have e3 := Had.out
          rw [if_pos hk2] at e3
          have E3 := Lib.hid e3
          clear e3 Had
          go_wp2_with (first | (go_at_call 104; refine (raddress_any _ _ _ _ _ _ _ _ _).mono ?_; rintro e w2 ⟨rfl, hb2⟩; rw [E3.out]; have hbw2 := below_of hb2 hbw; have hown2 := owns_below hb2 hown; clear hown hc1 hf1 hz1'; obtain ⟨hc2, hf2, hz2'⟩ := bcell hbw2) | (at_builtin; refine wpList_append_own _ rfl _ _ 135 rfl w'.heap.size 3 i0 (.int .i64 0) 1 8 Tryz.underlying135 hinf hz0 hz1 hz2 rfl (by decide) _ _ _ rfl (hown2.alloc _) ⟨w2.heap.size, 0, none⟩ 1 1 [.int .i64 (a + ((j : Int) + 1) * s)] rfl rfl (one_cell_new _ _ _) ?c2 ?c3 ?c4 ?c5 ?_))
          case c2 => intro u hu; simp at hu; subst hu; rfl
          case c3 => rw [List.length_take]; unfold maxLen; omega
          case c4 => rw [List.length_take]; omega
          case c5 => have := hbw2.size; simp; omega
          intro v' w3 hown' hgrow _
          have hbw3 : Below w'.heap.size w' w3 := (hbw2.alloc hbw2.size _).grown hgrow (by have := hbw2.size; simp; omega) (fun k hk => (hown2.lt k hk).1)
          have hown3 : w3.ownsRow w'.heap.size 3 1 v' (S.take (j + 1)).length ((S.take (j + 1)).map (Value.int .i64)) := by
            rw [htk.out j hjn, List.length_append, List.map_append]
            simpa [List.map_take] using hown'
          clear hown' hgrow hown2
          go_wp2
          go_roundw
          case rel => exact ⟨j + 1, by omega, by go_num, hown3, hbw3⟩
          case measure => simp [intOf]; omega
        · have hk2 : ¬ p + ((j : Int) + 1) < t := fun h => hjn (hl.1 ⟨hjo, h⟩)
          clear hl
          have e3 := Had.out
          rw [if_neg hk2] at e3
          have E3 := Lib.hid e3
          clear e3 Had
          have htot : S.take (j + 1) = S.take j := by
            have := hsh.out
            rw [List.take_of_length_le (by omega), List.take_of_length_le (by omega)]
          have Htot := Lib.hid htot
          clear htot
          have Hown := Lib.hid hown
          clear hown
          go_wp2_with (first | (go_at_call 104; refine (raddress_any _ _ _ _ _ _ _ _ _).mono ?_; rintro e w2 ⟨rfl, hb2⟩; rw [E3.out]; have hbw2 := below_of hb2 hbw; clear hc1 hf1 hz1'; obtain ⟨hc2, hf2, hz2'⟩ := bcell hbw2))
          go_roundw
          case rel => exact ⟨j + 1, by omega, by go_num, by rw [Htot.out]; exact owns_below hb2 Hown.out, hbw2⟩
          case measure => simp [intOf]; omega
      · have htot : S.take j = S := by
          have := hsh.out
          exact List.take_of_length_le (by omega)
        rw [htot] at hown
        have Hown := Lib.hid hown
        clear hown htot hl
        go_wp2_with fail
        go_ret
        exact ⟨_, rfl, owns_mono (by have := hB.size; simp at this; omega) Hown.out, (by repeat (first | (with_reducible exact Below.refl _ _) | (with_reducible refine Below.drew ?_) | (with_reducible refine below_drw ?_ _) | (with_reducible refine below_alloc ?_ _) | (with_reducible refine below_set ?_ (by simp <;> omega) _) | (refine below_of (by assumption) ?_)))⟩
end Go.Proofs.YtmloiifnadaaoaaGreat
