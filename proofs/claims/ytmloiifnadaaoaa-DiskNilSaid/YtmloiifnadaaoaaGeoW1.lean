/- The walks of package geometry and of its reference: what each function returns. -/
import Derived.Test.YtmloiifnadaaoaaBase
import Derived.Test.YtmloiifnadaaoaaGeo
namespace Go.Proofs.Ytmloiifnadaaoaa
open Go.RowKit
set_option linter.unusedVariables false
set_option linter.unusedSimpArgs false

set_option maxHeartbeats 400000 in
theorem within_any (n lo hi : Int) (w : World) : Calls Try.prog 110 #[.int .i64 n, .int .i64 lo, .int .i64 hi] w fun e w' => e = .returned (.bool (wi n lo hi)) ∧ w = w' := by
  by_cases h1 : lo ≤ n
  · by_cases h2 : n ≤ hi
    · have e : wi n lo hi = true := wi_true.2 ⟨h1, h2⟩
      go_enter Try.func110, Try.ntmps110
      go_wp2
      go_ret
      exact ⟨by simp [e], rfl⟩
    · have e : wi n lo hi = false := wi_false.2 (fun h => h2 h.2)
      go_enter Try.func110, Try.ntmps110
      go_wp2
      go_ret
      exact ⟨by simp [e], rfl⟩
  · have e : wi n lo hi = false := wi_false.2 (fun h => h1 h.1)
    go_enter Try.func110, Try.ntmps110
    go_wp2
    go_ret
    exact ⟨by simp [e], rfl⟩

set_option maxHeartbeats 400000 in
theorem valid_any (r b t s o : Int) (w : World) : Calls Try.prog 29 #[.agg #[.int .i64 r, .int .i64 b, .int .i64 t, .int .i64 s, .int .i64 o]] w fun e w' =>
    e = .returned (.bool (Geo.mk r b t s o).ok) ∧ Below w.heap.size w w' := by
  go_enter Try.func29, Try.ntmps29
  go_wp2_with (go_at_call 110; refine (within_any _ _ _ _).mono ?_; rintro e w' ⟨rfl, rfl⟩)
  all_goals go_ret
  all_goals exact ⟨by simp [Geo.ok, *], by go_grown⟩

set_option maxHeartbeats 400000 in
theorem rvalid_any (r b t s o : Int) (w : World) : Calls Try.prog 30 #[.agg #[.int .i64 r, .int .i64 b, .int .i64 t, .int .i64 s, .int .i64 o]] w fun e w' =>
    e = .returned (.bool (Geo.mk r b t s o).ok) ∧ Below w.heap.size w w' := by
  go_enter Try.func30, Try.ntmps30
  go_wp2
  all_goals go_ret
  all_goals refine ⟨ret_bool ?_, by go_grown⟩
  all_goals simp only [Geo.ok, wi]
  all_goals first | (rw [eq_comm]; simp; omega) | (rw [Bool.eq_iff_iff]; simp; omega)

set_option maxHeartbeats 400000 in
theorem bandSize_any (r b t s o : Int) (w : World) : Calls Try.prog 33 #[.agg #[.int .i64 r, .int .i64 b, .int .i64 t, .int .i64 s, .int .i64 o]] w fun e w' =>
    e = .returned (.int .i64 (Geo.mk r b t s o).bs) ∧ Below w.heap.size w w' := by
  cases hv : (Geo.mk r b t s o).ok with
  | false =>
    have e0 := Geo.bs_no hv
    go_enter Try.func33, Try.ntmps33
    go_wp2_with ((go_at_call 29; refine (valid_any _ _ _ _ _ _).mono ?_; rintro e w' ⟨rfl, hb⟩); obtain ⟨hc, hf, hz⟩ := bcell hb)
    go_ret
    exact ⟨ret_int e0.symm, (by repeat (first | (with_reducible exact Below.refl _ _) | (with_reducible refine Below.drew ?_) | (with_reducible refine below_drw ?_ _) | (with_reducible refine below_alloc ?_ _) | (with_reducible refine below_set ?_ (by simp <;> omega) _) | (refine below_of (by assumption) ?_)))⟩
  | true =>
    have ho := Geo.ok_iff.1 hv
    have e0 := Lib.hid (Geo.bs_ok ho)
    have ht := ho.ts
    simp only at ht
    go_enter Try.func33, Try.ntmps33
    go_wp2_with ((go_at_call 29; refine (valid_any _ _ _ _ _ _).mono ?_; rintro e w' ⟨rfl, hb⟩); obtain ⟨hc, hf, hz⟩ := bcell hb)
    go_ret
    exact ⟨ret_int e0.out.symm, (by repeat (first | (with_reducible exact Below.refl _ _) | (with_reducible refine Below.drew ?_) | (with_reducible refine below_drw ?_ _) | (with_reducible refine below_alloc ?_ _) | (with_reducible refine below_set ?_ (by simp <;> omega) _) | (refine below_of (by assumption) ?_)))⟩

set_option maxHeartbeats 400000 in
theorem rbandSize_any (r b t s o : Int) (w : World) : Calls Try.prog 34 #[.agg #[.int .i64 r, .int .i64 b, .int .i64 t, .int .i64 s, .int .i64 o]] w fun e w' =>
    e = .returned (.int .i64 (Geo.mk r b t s o).bs) ∧ Below w.heap.size w w' := by
  cases hv : (Geo.mk r b t s o).ok with
  | false =>
    have e0 := Geo.bs_no hv
    go_enter Try.func34, Try.ntmps34
    go_wp2_with ((go_at_call 30; refine (rvalid_any _ _ _ _ _ _).mono ?_; rintro e w' ⟨rfl, hb⟩); obtain ⟨hc, hf, hz⟩ := bcell hb)
    go_ret
    exact ⟨ret_int e0.symm, (by repeat (first | (with_reducible exact Below.refl _ _) | (with_reducible refine Below.drew ?_) | (with_reducible refine below_drw ?_ _) | (with_reducible refine below_alloc ?_ _) | (with_reducible refine below_set ?_ (by simp <;> omega) _) | (refine below_of (by assumption) ?_)))⟩
  | true =>
    have ho := Geo.ok_iff.1 hv
    have e0 := Lib.hid (Geo.bs_ok ho)
    have ht := ho.ts
    simp only at ht
    go_enter Try.func34, Try.ntmps34
    go_wp2_with ((go_at_call 30; refine (rvalid_any _ _ _ _ _ _).mono ?_; rintro e w' ⟨rfl, hb⟩); obtain ⟨hc, hf, hz⟩ := bcell hb)
    go_ret
    exact ⟨ret_int e0.out.symm, (by repeat (first | (with_reducible exact Below.refl _ _) | (with_reducible refine Below.drew ?_) | (with_reducible refine below_drw ?_ _) | (with_reducible refine below_alloc ?_ _) | (with_reducible refine below_set ?_ (by simp <;> omega) _) | (refine below_of (by assumption) ?_)))⟩

set_option maxHeartbeats 400000 in
theorem size_any (r b t s o : Int) (w : World) : Calls Try.prog 31 #[.agg #[.int .i64 r, .int .i64 b, .int .i64 t, .int .i64 s, .int .i64 o]] w fun e w' =>
    e = .returned (.int .i64 (Geo.mk r b t s o).size) ∧ Below w.heap.size w w' := by
  cases hv : (Geo.mk r b t s o).ok with
  | false =>
    have e0 := Geo.size_no hv
    go_enter Try.func31, Try.ntmps31
    go_wp2_with ((go_at_call 29; refine (valid_any _ _ _ _ _ _).mono ?_; rintro e w' ⟨rfl, hb⟩); obtain ⟨hc, hf, hz⟩ := bcell hb)
    go_ret
    exact ⟨ret_int e0.symm, (by repeat (first | (with_reducible exact Below.refl _ _) | (with_reducible refine Below.drew ?_) | (with_reducible refine below_drw ?_ _) | (with_reducible refine below_alloc ?_ _) | (with_reducible refine below_set ?_ (by simp <;> omega) _) | (refine below_of (by assumption) ?_)))⟩
  | true =>
    have ho := Geo.ok_iff.1 hv
    have e0 := Lib.hid (Geo.size_ok ho)
    have e1 := Lib.hid (Geo.bs_ok ho)
    have ht := ho.ts
    have hbt := ho.bts
    have hr := ho.r1
    have hr0 := ho.r0
    simp only at ht hbt hr hr0
    go_enter Try.func31, Try.ntmps31
    go_wp2_with ((go_at_call 29; refine (valid_any _ _ _ _ _ _).mono ?_; rintro e w' ⟨rfl, hb⟩); obtain ⟨hc, hf, hz⟩ := bcell hb)
    go_region_held3 (fun W_ => (∀ b_ o_, b_ < (w').heap.size → W_.cell? ⟨b_, o_, none⟩ = (w').cell? ⟨b_, o_, none⟩) ∧ (∀ b_ o_, b_ < (w').heap.size → W_.frozen? ⟨b_, o_, none⟩ = (w').frozen? ⟨b_, o_, none⟩) ∧ (∀ k_, k_ < (w').heap.size → k_ < W_.heap.size) ∧ Below (w').heap.size (w') W_) (first | exact held_start _ | assumption | exact held_keep (by assumption) (by assumption) | exact held_keep (by assumption) ((Below.refl _ _).alloc (Nat.le_refl _) _) | exact held_of (by assumption)) (first | ((go_at_call 33; refine (bandSize_any _ _ _ _ _ _).mono ?_; rintro e w' ⟨rfl, hb1⟩); rw [e1.out]))
    all_goals go_wp2
    all_goals go_ret
    all_goals exact ⟨ret_int (by rw [e0.out]; simp (disch := omega) only [IntWalk.i64_in]), (by repeat (first | (with_reducible exact Below.refl _ _) | (with_reducible refine Below.drew ?_) | (with_reducible refine below_drw ?_ _) | (with_reducible refine below_alloc ?_ _) | (with_reducible refine below_set ?_ (by simp <;> omega) _) | (refine below_of (by assumption) ?_)))⟩

set_option maxHeartbeats 400000 in
theorem rsize_any (r b t s o : Int) (w : World) : Calls Try.prog 32 #[.agg #[.int .i64 r, .int .i64 b, .int .i64 t, .int .i64 s, .int .i64 o]] w fun e w' =>
    e = .returned (.int .i64 (Geo.mk r b t s o).size) ∧ Below w.heap.size w w' := by
  cases hv : (Geo.mk r b t s o).ok with
  | false =>
    have e0 := Geo.size_no hv
    go_enter Try.func32, Try.ntmps32
    go_wp2_with ((go_at_call 30; refine (rvalid_any _ _ _ _ _ _).mono ?_; rintro e w' ⟨rfl, hb⟩); obtain ⟨hc, hf, hz⟩ := bcell hb)
    go_ret
    exact ⟨ret_int e0.symm, (by repeat (first | (with_reducible exact Below.refl _ _) | (with_reducible refine Below.drew ?_) | (with_reducible refine below_drw ?_ _) | (with_reducible refine below_alloc ?_ _) | (with_reducible refine below_set ?_ (by simp <;> omega) _) | (refine below_of (by assumption) ?_)))⟩
  | true =>
    have ho := Geo.ok_iff.1 hv
    have e0 := Lib.hid (Geo.size_ok ho)
    have e1 := Lib.hid (Geo.bs_ok ho)
    have ht := ho.ts
    have hbt := ho.bts
    have hr := ho.r1
    have hr0 := ho.r0
    simp only at ht hbt hr hr0
    go_enter Try.func32, Try.ntmps32
    go_wp2_with ((go_at_call 30; refine (rvalid_any _ _ _ _ _ _).mono ?_; rintro e w' ⟨rfl, hb⟩); obtain ⟨hc, hf, hz⟩ := bcell hb)
    go_region_held3 (fun W_ => (∀ b_ o_, b_ < (w').heap.size → W_.cell? ⟨b_, o_, none⟩ = (w').cell? ⟨b_, o_, none⟩) ∧ (∀ b_ o_, b_ < (w').heap.size → W_.frozen? ⟨b_, o_, none⟩ = (w').frozen? ⟨b_, o_, none⟩) ∧ (∀ k_, k_ < (w').heap.size → k_ < W_.heap.size) ∧ Below (w').heap.size (w') W_) (first | exact held_start _ | assumption | exact held_keep (by assumption) (by assumption) | exact held_keep (by assumption) ((Below.refl _ _).alloc (Nat.le_refl _) _) | exact held_of (by assumption)) (first | ((go_at_call 34; refine (rbandSize_any _ _ _ _ _ _).mono ?_; rintro e w' ⟨rfl, hb1⟩); rw [e1.out]))
    all_goals go_wp2
    all_goals go_ret
    all_goals exact ⟨ret_int (by rw [e0.out]; simp (disch := omega) only [IntWalk.i64_in]), (by repeat (first | (with_reducible exact Below.refl _ _) | (with_reducible refine Below.drew ?_) | (with_reducible refine below_drw ?_ _) | (with_reducible refine below_alloc ?_ _) | (with_reducible refine below_set ?_ (by simp <;> omega) _) | (refine below_of (by assumption) ?_)))⟩

set_option maxHeartbeats 1000000 in
theorem locate_any (r b t s o a : Int) (w : World) : Calls Try.prog 39 #[.agg #[.int .i64 r, .int .i64 b, .int .i64 t, .int .i64 s, .int .i64 o], .int .i64 a] w fun e w' =>
    e = .returned (.tuple #[.int .i64 ((Geo.mk r b t s o).loc a).1, .int .i64 ((Geo.mk r b t s o).loc a).2.1, .int .i64 ((Geo.mk r b t s o).loc a).2.2.1, .int .i64 ((Geo.mk r b t s o).loc a).2.2.2]) ∧ Below w.heap.size w w' := by
  cases hv : (Geo.mk r b t s o).ok with
  | false =>
    have e0 : (Geo.mk r b t s o).loc a = (0, 0, 0, 1) := by unfold Geo.loc; rw [if_pos hv]
    rw [e0]
    clear e0
    go_enter Try.func39, Try.ntmps39
    go_wp2_with ((go_at_call 29; refine (valid_any _ _ _ _ _ _).mono ?_; rintro e w' ⟨rfl, hb⟩); obtain ⟨hc, hf, hz⟩ := bcell hb)
    refine bodyPost_ret (results_tmp4 rfl _ _ _) rfl ?_
    exact ⟨rfl, (by repeat (first | (with_reducible exact Below.refl _ _) | (with_reducible refine Below.drew ?_) | (with_reducible refine below_drw ?_ _) | (with_reducible refine below_alloc ?_ _) | (with_reducible refine below_set ?_ (by simp <;> omega) _) | (refine below_of (by assumption) ?_)))⟩
  | true =>
    have ho := Geo.ok_iff.1 hv
    have hsz := Geo.size_bd (Geo.mk r b t s o)
    cases hi : (Geo.mk r b t s o).inBand a with
    | false =>
      have e0 : (Geo.mk r b t s o).loc a = (0, 0, 0, 2) := by unfold Geo.loc; rw [if_neg (by rw [hv]; decide), if_pos hi]
      rw [e0]
      clear e0
      have hw : wi a r ((Geo.mk r b t s o).size - 1) = false := by simpa [Geo.inBand, hv] using hi
      go_enter Try.func39, Try.ntmps39
      go_wp2_with ((go_at_call 29; refine (valid_any _ _ _ _ _ _).mono ?_; rintro e w' ⟨rfl, hb⟩); obtain ⟨hc, hf, hz⟩ := bcell hb)
      go_region_held3 (fun W_ => (∀ b_ o_, b_ < (w').heap.size → W_.cell? ⟨b_, o_, none⟩ = (w').cell? ⟨b_, o_, none⟩) ∧ (∀ b_ o_, b_ < (w').heap.size → W_.frozen? ⟨b_, o_, none⟩ = (w').frozen? ⟨b_, o_, none⟩) ∧ (∀ k_, k_ < (w').heap.size → k_ < W_.heap.size) ∧ Below (w').heap.size (w') W_) (first | exact held_start _ | assumption | exact held_keep (by assumption) (by assumption) | exact held_keep (by assumption) ((Below.refl _ _).alloc (Nat.le_refl _) _) | exact held_of (by assumption)) (first | ((go_at_call 31; refine (size_any _ _ _ _ _ _).mono ?_; rintro e w' ⟨rfl, hb1⟩)) | ((go_at_call 110; refine (within_any _ _ _ _).mono ?_; rintro e w' ⟨rfl, rfl⟩)))
      all_goals (simp (disch := omega) only [IntWalk.i64_in, hw])
      all_goals go_wp2
      all_goals refine bodyPost_ret (results_tmp4 rfl _ _ _) rfl ?_
      all_goals exact ⟨rfl, (by repeat (first | (with_reducible exact Below.refl _ _) | (with_reducible refine Below.drew ?_) | (with_reducible refine below_drw ?_ _) | (with_reducible refine below_alloc ?_ _) | (with_reducible refine below_set ?_ (by simp <;> omega) _) | (refine below_of (by assumption) ?_)))⟩
    | true =>
      have hw : wi a r ((Geo.mk r b t s o).size - 1) = true := by simpa [Geo.inBand, hv] using hi
      have e0 : (Geo.mk r b t s o).loc a = (((Geo.mk r b t s o).place a).1, ((Geo.mk r b t s o).place a).2.1, ((Geo.mk r b t s o).place a).2.2, 0) := by unfold Geo.loc; rw [if_neg (by rw [hv]; decide), if_neg (by rw [hi]; decide)]
      have e1 := Lib.hid e0
      clear e0
      have hp := Geo.inBand_iff.1 hi
      have hbt := ho.bts
      obtain ⟨r0, r1, b0, b1, t0, t1, s0, s1, _, _⟩ := ho
      obtain ⟨_, hp1, hp2⟩ := hp
      simp only at r0 r1 b0 b1 t0 t1 s0 s1 hp1 hp2 hbt
      have q0 : 0 ≤ (a - r) / s := Int.ediv_nonneg (by omega) (by omega)
      have q1 : (a - r) / s ≤ 65536 := by
        have := Int.ediv_le_self s (show 0 ≤ a - r by omega)
        omega
      go_enter Try.func39, Try.ntmps39
      go_wp2_with ((go_at_call 29; refine (valid_any _ _ _ _ _ _).mono ?_; rintro e w' ⟨rfl, hb⟩); obtain ⟨hc, hf, hz⟩ := bcell hb)
      go_region_held3 (fun W_ => (∀ b_ o_, b_ < (w').heap.size → W_.cell? ⟨b_, o_, none⟩ = (w').cell? ⟨b_, o_, none⟩) ∧ (∀ b_ o_, b_ < (w').heap.size → W_.frozen? ⟨b_, o_, none⟩ = (w').frozen? ⟨b_, o_, none⟩) ∧ (∀ k_, k_ < (w').heap.size → k_ < W_.heap.size) ∧ Below (w').heap.size (w') W_) (first | exact held_start _ | assumption | exact held_keep (by assumption) (by assumption) | exact held_keep (by assumption) ((Below.refl _ _).alloc (Nat.le_refl _) _) | exact held_of (by assumption)) (first | ((go_at_call 31; refine (size_any _ _ _ _ _ _).mono ?_; rintro e w' ⟨rfl, hb1⟩)) | ((go_at_call 110; refine (within_any _ _ _ _).mono ?_; rintro e w' ⟨rfl, rfl⟩)))
      all_goals (simp (disch := omega) only [IntWalk.i64_in, hw])
      all_goals go_wp2
      all_goals go_quiet (fail)
      all_goals go_wp2
      all_goals go_quiet (fail)
      all_goals go_wp2
      all_goals refine bodyPost_ret (results_tmp4 rfl _ _ _) rfl ?_
      all_goals exact ⟨by rw [e1.out]; rfl, (by repeat (first | (with_reducible exact Below.refl _ _) | (with_reducible refine Below.drew ?_) | (with_reducible refine below_drw ?_ _) | (with_reducible refine below_alloc ?_ _) | (with_reducible refine below_set ?_ (by simp <;> omega) _) | (refine below_of (by assumption) ?_)))⟩
end Go.Proofs.Ytmloiifnadaaoaa
