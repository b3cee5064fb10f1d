/- The walks of package disk: the small methods. -/
import Derived.Test.YtmloiifnadaaoaaGreatDskH
namespace Go.Proofs.YtmloiifnadaaoaaGreat
open Go.RowKit
set_option linter.unusedVariables false
set_option linter.unusedSimpArgs false

theorem dnewPower_any (w : World) : Calls Tryz.prog 16 #[] w fun e w' => ∃ pp, e = .returned (.pointer (some ⟨pp, 0, none⟩)) ∧ w.heap.size ≤ pp ∧ IsPow w' (fun k => w.heap.size ≤ k) pp Pow.new ∧ Below w.heap.size w w' := by
  go_enter Tryz.func16, Tryz.ntmps16
  go_wp2
  go_ret
  exact ⟨_, rfl, Nat.le_refl _, ⟨Nat.le_refl _, 0, heap_alloc_new _ _, fun _ => rfl⟩, (by repeat (first | (with_reducible exact Below.refl _ _) | (with_reducible refine Below.drew ?_) | (with_reducible refine below_drw ?_ _) | (with_reducible refine below_alloc ?_ _) | (with_reducible refine below_set ?_ (by simp <;> omega) _) | (refine below_of (by assumption) ?_)))⟩

theorem dgeometry_nil (w : World) : Calls Tryz.prog 40 #[.pointer none] w fun e w' => e = .returned (.agg #[.int .i64 0, .int .i64 0, .int .i64 0, .int .i64 0, .int .i64 0]) ∧ Below w.heap.size w w' := by
  go_enter Tryz.func40, Tryz.ntmps40
  go_wp2
  exact bodyPost_ret (v := .agg #[.int .i64 0, .int .i64 0, .int .i64 0, .int .i64 0, .int .i64 0]) (by simp [results, Tryz.results40, go_sem]) rfl ⟨rfl, (by repeat (first | (with_reducible exact Below.refl _ _) | (with_reducible refine Below.drew ?_) | (with_reducible refine below_drw ?_ _) | (with_reducible refine below_alloc ?_ _) | (with_reducible refine below_set ?_ (by simp <;> omega) _) | (refine below_of (by assumption) ?_)))⟩
theorem dstats_nil (w : World) : Calls Tryz.prog 41 #[.pointer none] w fun e w' => e = .returned (.agg #[.int .i64 0, .int .i64 0, .int .i64 0, .int .i64 0]) ∧ Below w.heap.size w w' := by
  go_enter Tryz.func41, Tryz.ntmps41
  go_wp2
  exact bodyPost_ret (v := .agg #[.int .i64 0, .int .i64 0, .int .i64 0, .int .i64 0]) (by simp [results, Tryz.results41, go_sem]) rfl ⟨rfl, (by repeat (first | (with_reducible exact Below.refl _ _) | (with_reducible refine Below.drew ?_) | (with_reducible refine below_drw ?_ _) | (with_reducible refine below_alloc ?_ _) | (with_reducible refine below_set ?_ (by simp <;> omega) _) | (refine below_of (by assumption) ?_)))⟩
theorem ddead_nil (w : World) : Calls Tryz.prog 12 #[.pointer none] w fun e w' => e = .returned (.bool false) ∧ w = w' := by
  go_enter Tryz.func12, Tryz.ntmps12
  go_wp2
  go_ret
  exact ⟨rfl, rfl⟩
theorem dops_nil (w : World) : Calls Tryz.prog 42 #[.pointer none] w fun e w' => e = .returned (.int .i64 0) ∧ w = w' := by
  go_enter Tryz.func42, Tryz.ntmps42
  go_wp2
  go_ret
  exact ⟨rfl, rfl⟩
theorem dpending_nil (w : World) : Calls Tryz.prog 43 #[.pointer none] w fun e w' => e = .returned (.int .i64 0) ∧ w = w' := by
  go_enter Tryz.func43, Tryz.ntmps43
  go_wp2
  go_ret
  exact ⟨rfl, rfl⟩
theorem dstateOf_nil (a : Int) (w : World) : Calls Tryz.prog 45 #[.pointer none, .int .i64 a] w fun e w' => e = .returned (.int .i64 0) ∧ w = w' := by
  go_enter Tryz.func45, Tryz.ntmps45
  go_wp2
  go_ret
  exact ⟨rfl, rfl⟩
theorem darm_nil (a : Int) (w : World) : Calls Tryz.prog 20 #[.pointer none, .int .i64 a] w fun e w' => e = .returned (.tuple #[]) ∧ w = w' := by
  go_enter Tryz.func20, Tryz.ntmps20
  go_wp2
  go_end0
  exact ⟨rfl, rfl⟩
theorem don_nil (w : World) : Calls Tryz.prog 29 #[.pointer none] w fun e w' => e = .returned (.tuple #[]) ∧ w = w' := by
  go_enter Tryz.func29, Tryz.ntmps29
  go_wp2
  go_end0
  exact ⟨rfl, rfl⟩
theorem doff_nil (w : World) : Calls Tryz.prog 21 #[.pointer none] w fun e w' => e = .returned (.bool false) ∧ w = w' := by
  go_enter Tryz.func21, Tryz.ntmps21
  go_wp2
  go_ret
  exact ⟨rfl, rfl⟩
theorem dkill_nil (w : World) : Calls Tryz.prog 8 #[.pointer none] w fun e w' => e = .returned (.tuple #[]) ∧ w = w' := by
  go_enter Tryz.func8, Tryz.ntmps8
  go_wp2
  go_end0
  exact ⟨rfl, rfl⟩
theorem dstate_nil (w : World) : Calls Tryz.prog 38 #[.pointer none] w fun e w' => e = .returned (.int .i64 8) ∧ w = w' := by
  go_enter Tryz.func38, Tryz.ntmps38
  go_wp2
  go_ret
  exact ⟨rfl, rfl⟩
theorem dacquire_nil (k : Int) (w : World) : Calls Tryz.prog 13 #[.pointer none, .int .u64 k] w fun e w' => e = .returned (.int .i64 8) ∧ w = w' := by
  go_enter Tryz.func13, Tryz.ntmps13
  go_wp2_with ((go_at_call 38; refine (dstate_nil _).mono ?_; rintro e w' ⟨rfl, rfl⟩))
  go_ret
  exact ⟨rfl, rfl⟩
theorem drestart_nil (k : Int) (w : World) : Calls Tryz.prog 14 #[.pointer none, .int .i64 k] w fun e w' => e = .returned (.int .i64 8) ∧ w = w' := by
  go_enter Tryz.func14, Tryz.ntmps14
  go_wp2
  go_ret
  exact ⟨rfl, rfl⟩
theorem dperform_nil (k : Int) (v : Value) (w : World) : Calls Tryz.prog 51 #[.pointer none, .int .u64 k, v] w fun e w' => e = .returned (.int .i64 8) ∧ w = w' := by
  go_enter Tryz.func51, Tryz.ntmps51
  go_wp2_with ((go_at_call 38; refine (dstate_nil _).mono ?_; rintro e w' ⟨rfl, rfl⟩))
  go_ret
  exact ⟨rfl, rfl⟩
theorem dread_nil (k a : Int) (w : World) : Calls Tryz.prog 19 #[.pointer none, .int .u64 k, .int .i64 a] w fun e w' => e = .returned (.tuple #[.slice none 0 0, .int .i64 8]) ∧ Below w.heap.size w w' := by
  go_enter Tryz.func19, Tryz.ntmps19
  go_wp2_with ((go_at_call 51; refine (dperform_nil _ _ _).mono ?_; rintro e w' ⟨rfl, rfl⟩))
  go_ret2
  exact ⟨rfl, (by repeat (first | (with_reducible exact Below.refl _ _) | (with_reducible refine Below.drew ?_) | (with_reducible refine below_drw ?_ _) | (with_reducible refine below_alloc ?_ _) | (with_reducible refine below_set ?_ (by simp <;> omega) _) | (refine below_of (by assumption) ?_)))⟩
theorem dwrite_nil (k a : Int) (A : Option Addr) (n c : Nat) (f : Bool) (w : World) : Calls Tryz.prog 18 #[.pointer none, .int .u64 k, .int .i64 a, .slice A n c, .bool f] w fun e w' => e = .returned (.int .i64 8) ∧ Below w.heap.size w w' := by
  go_enter Tryz.func18, Tryz.ntmps18
  go_wp2_with ((go_at_call 51; refine (dperform_nil _ _ _).mono ?_; rintro e w' ⟨rfl, rfl⟩))
  go_ret
  exact ⟨rfl, (by repeat (first | (with_reducible exact Below.refl _ _) | (with_reducible refine Below.drew ?_) | (with_reducible refine below_drw ?_ _) | (with_reducible refine below_alloc ?_ _) | (with_reducible refine below_set ?_ (by simp <;> omega) _) | (refine below_of (by assumption) ?_)))⟩
theorem derase_nil (k a : Int) (w : World) : Calls Tryz.prog 27 #[.pointer none, .int .u64 k, .int .i64 a] w fun e w' => e = .returned (.int .i64 8) ∧ Below w.heap.size w w' := by
  go_enter Tryz.func27, Tryz.ntmps27
  go_wp2_with ((go_at_call 51; refine (dperform_nil _ _ _).mono ?_; rintro e w' ⟨rfl, rfl⟩))
  go_ret
  exact ⟨rfl, (by repeat (first | (with_reducible exact Below.refl _ _) | (with_reducible refine Below.drew ?_) | (with_reducible refine below_drw ?_ _) | (with_reducible refine below_alloc ?_ _) | (with_reducible refine below_set ?_ (by simp <;> omega) _) | (refine below_of (by assumption) ?_)))⟩
theorem dflush_nil (k : Int) (w : World) : Calls Tryz.prog 28 #[.pointer none, .int .u64 k] w fun e w' => e = .returned (.int .i64 8) ∧ Below w.heap.size w w' := by
  go_enter Tryz.func28, Tryz.ntmps28
  go_wp2_with ((go_at_call 51; refine (dperform_nil _ _ _).mono ?_; rintro e w' ⟨rfl, rfl⟩))
  go_ret
  exact ⟨rfl, (by repeat (first | (with_reducible exact Below.refl _ _) | (with_reducible refine Below.drew ?_) | (with_reducible refine below_drw ?_ _) | (with_reducible refine below_alloc ?_ _) | (with_reducible refine below_set ?_ (by simp <;> omega) _) | (refine below_of (by assumption) ?_)))⟩

section
variable {G : Nat → Prop} {pd pp : Nat} {D : Dsk} {P : Pow}
set_option maxHeartbeats 1000000 in
theorem dgeometry_any (w : World) (h : IsDisk w G pd pp D) : Calls Tryz.prog 40 #[.pointer (some ⟨pd, 0, none⟩)] w fun e w' => e = .returned (.agg #[.int .i64 D.g.r, .int .i64 D.g.b, .int .i64 D.g.t, .int .i64 D.g.s, .int .i64 D.g.o]) ∧ Below w.heap.size w w' := by
  obtain ⟨pc, A, c, h⟩ := h
  obtain ⟨g0, g1, g2, g3, g4⟩ := h.geoCells
  have hl := h.hasD.lt
  have hne : pd ≠ w.heap.size := by omega
  clear h
  go_enter Tryz.func40, Tryz.ntmps40
  go_wp2
  refine bodyPost_ret (v := .agg #[.int .i64 D.g.r, .int .i64 D.g.b, .int .i64 D.g.t, .int .i64 D.g.s, .int .i64 D.g.o]) (by simp [results, Tryz.results40, go_sem]) rfl ⟨rfl, (by repeat (first | (with_reducible exact Below.refl _ _) | (with_reducible refine Below.drew ?_) | (with_reducible refine below_drw ?_ _) | (with_reducible refine below_alloc ?_ _) | (with_reducible refine below_set ?_ (by simp <;> omega) _) | (refine below_of (by assumption) ?_)))⟩
set_option maxHeartbeats 1000000 in
theorem dstats_any (w : World) (h : IsDisk w G pd pp D) : Calls Tryz.prog 41 #[.pointer (some ⟨pd, 0, none⟩)] w fun e w' => e = .returned (.agg #[.int .i64 D.s0, .int .i64 D.s1, .int .i64 D.s2, .int .i64 D.s3]) ∧ Below w.heap.size w w' := by
  obtain ⟨pc, A, c, h⟩ := h
  obtain ⟨k0, k1, k2, k3, _⟩ := h.cells
  have hl := h.hasD.lt
  have hne : pd ≠ w.heap.size := by omega
  clear h
  go_enter Tryz.func41, Tryz.ntmps41
  go_wp2
  refine bodyPost_ret (v := .agg #[.int .i64 D.s0, .int .i64 D.s1, .int .i64 D.s2, .int .i64 D.s3]) (by simp [results, Tryz.results41, go_sem]) rfl ⟨rfl, (by repeat (first | (with_reducible exact Below.refl _ _) | (with_reducible refine Below.drew ?_) | (with_reducible refine below_drw ?_ _) | (with_reducible refine below_alloc ?_ _) | (with_reducible refine below_set ?_ (by simp <;> omega) _) | (refine below_of (by assumption) ?_)))⟩
theorem ddead_any (w : World) (h : IsDisk w G pd pp D) : Calls Tryz.prog 12 #[.pointer (some ⟨pd, 0, none⟩)] w fun e w' => e = .returned (.bool D.dead) ∧ w = w' := by
  obtain ⟨pc, A, c, h⟩ := h
  obtain ⟨_, _, _, _, _, _, _, _, _, _, k15, _⟩ := h.cells
  clear h
  go_enter Tryz.func12, Tryz.ntmps12
  go_wp2
  all_goals go_ret
  all_goals exact ⟨rfl, rfl⟩
theorem dops_any (w : World) (h : IsDisk w G pd pp D) : Calls Tryz.prog 42 #[.pointer (some ⟨pd, 0, none⟩)] w fun e w' => e = .returned (.int .i64 D.count) ∧ w = w' := by
  obtain ⟨pc, A, c, h⟩ := h
  obtain ⟨_, _, _, _, k4, _⟩ := h.cells
  clear h
  go_enter Tryz.func42, Tryz.ntmps42
  go_wp2
  go_ret
  exact ⟨rfl, rfl⟩
theorem dpending_any (w : World) (h : IsDisk w G pd pp D) : Calls Tryz.prog 43 #[.pointer (some ⟨pd, 0, none⟩)] w fun e w' => e = .returned (.int .i64 (D.c.l.length : Int)) ∧ w = w' := by
  obtain ⟨pc, A, c, h⟩ := h
  obtain ⟨_, _, _, _, _, k10, _⟩ := h.cells
  have C := Lib.hid h.cache.toC
  clear h
  go_enter Tryz.func43, Tryz.ntmps43
  go_wp2_with ((go_at_call 72; refine (cpending_any 0 pc D.c.d D.c.l _ C.out).mono ?_; rintro e w' ⟨rfl, rfl⟩))
  go_ret
  exact ⟨rfl, rfl⟩
theorem dstateOf_any (a : Int) (w : World) (h : IsDisk w G pd pp D) : Calls Tryz.prog 45 #[.pointer (some ⟨pd, 0, none⟩), .int .i64 a] w fun e w' => e = .returned (.int .i64 (D.m.state a)) ∧ w = w' := by
  obtain ⟨pc, A, c, h⟩ := h
  obtain ⟨_, _, _, _, _, k10, _⟩ := h.cells
  have C := Lib.hid h.cache.toC
  clear h
  go_enter Tryz.func45, Tryz.ntmps45
  go_wp2_with ((go_at_call 75; refine (cstate_any 0 pc D.c.d D.c.l a _ C.out).mono ?_; rintro e w' ⟨rfl, rfl⟩))
  go_ret
  exact ⟨rfl, rfl⟩
theorem doff_any (w : World) (h : IsPow w G pp P) : Calls Tryz.prog 21 #[.pointer (some ⟨pp, 0, none⟩)] w fun e w' => e = .returned (.bool P.off) ∧ w = w' := by
  obtain ⟨x, k0, _⟩ := h.cells
  clear h
  go_enter Tryz.func21, Tryz.ntmps21
  go_wp2
  all_goals go_ret
  all_goals exact ⟨rfl, rfl⟩
set_option maxHeartbeats 1000000 in
theorem don_any (w : World) (h : IsPow w G pp P) : Calls Tryz.prog 29 #[.pointer (some ⟨pp, 0, none⟩)] w fun e w' => e = .returned (.tuple #[]) ∧ IsPow w' G pp P.on ∧ Fr (· = pp) w w' := by
  obtain ⟨x, k0, _, _, _, _, hl, f0, _⟩ := h.cells
  have H := Lib.hid h
  clear h
  go_enter Tryz.func29, Tryz.ntmps29
  go_wp2
  go_end0
  obtain ⟨h0, y, h1, h2⟩ := H.out
  exact ⟨rfl, ⟨h0, y, head_set h1 0 _, h2⟩, fr_one _ _ _ _⟩
set_option maxHeartbeats 2000000 in
theorem darm_any (n : Int) (w : World) (h : IsPow w G pp P) : Calls Tryz.prog 20 #[.pointer (some ⟨pp, 0, none⟩), .int .i64 n] w fun e w' => e = .returned (.tuple #[]) ∧ IsPow w' G pp (P.arm n) ∧ Fr (· = pp) w w' := by
  obtain ⟨x, k0, k1, k2, _, _, hl, _, f1, f2, _⟩ := h.cells
  have H := Lib.hid h
  clear h
  obtain ⟨off, armed, left, fails⟩ := P
  cases off with
  | true =>
    go_enter Tryz.func20, Tryz.ntmps20
    go_wp2
    go_end0
    exact ⟨rfl, H.out, Fr.refl _ _⟩
  | false =>
    go_enter Tryz.func20, Tryz.ntmps20
    go_wp2
    go_end0
    obtain ⟨h0, y, h1, h2⟩ := H.out
    have F := (fr_one w pp 1 (.bool (decide (0 ≤ n)))).trans (fr_one _ pp 2 (.int .i64 n))
    exact ⟨rfl, ⟨h0, n, head_set (head_set h1 1 _) 2 _, fun _ => rfl⟩, F⟩
set_option maxHeartbeats 1000000 in
theorem dkill_any (w : World) (h : IsDisk w G pd pp D) : Calls Tryz.prog 8 #[.pointer (some ⟨pd, 0, none⟩)] w fun e w' => e = .returned (.tuple #[]) ∧ IsDisk w' G pd pp { D with dead := true } ∧ Fr (· = pd) w w' := by
  obtain ⟨pc, A, c, h⟩ := h
  obtain ⟨_, _, _, _, _, _, _, _, _, _, k15, hl⟩ := h.cells
  have f15 := h.fz 15
  have H := Lib.hid h
  clear h
  go_enter Tryz.func8, Tryz.ntmps8
  go_wp2
  go_end0
  exact ⟨rfl, ⟨pc, A, c, (H.out.store (D' := { D with dead := true }) (i := 15) rfl rfl rfl rfl).1⟩, fr_one _ _ _ _⟩
end
end Go.Proofs.YtmloiifnadaaoaaGreat
/- The walks of package disk: state, Acquire, call, has, Restart. -/
namespace Go.Proofs.YtmloiifnadaaoaaGreat
open Go.RowKit
set_option linter.unusedVariables false
set_option linter.unusedSimpArgs false

section
variable {G : Nat → Prop} {pd pp : Nat} {D : Dsk} {P : Pow}
theorem Dsk.state_dead (h : D.dead = true) : D.state P = 14 := by unfold Dsk.state; rw [if_pos h]
theorem Dsk.state_off (h : D.dead = false) (h2 : P.off = true) : D.state P = 13 := by unfold Dsk.state; rw [if_neg (by simp [h]), if_pos (by simp [h2])]
theorem Dsk.state_seen (h : D.dead = false) (h2 : D.seen ≠ P.fails) : D.state P = 13 := by unfold Dsk.state; rw [if_neg (by simp [h]), if_pos (by simp [h2])]
theorem Dsk.state_ok (h : D.dead = false) (h1 : P.off = false) (h2 : D.seen = P.fails) : D.state P = 0 := by unfold Dsk.state; rw [if_neg (by simp [h]), if_neg (by simp [h1, h2])]
theorem Dsk.state_zero (h : D.state P = 0) : D.dead = false ∧ P.off = false ∧ D.seen = P.fails := by
  cases hd : D.dead
  · cases ho : P.off
    · by_cases hs : D.seen = P.fails
      · exact ⟨rfl, rfl, hs⟩
      · rw [Dsk.state_seen hd hs] at h; cases h
    · rw [Dsk.state_off hd ho] at h; cases h
  · rw [Dsk.state_dead hd] at h; cases h

set_option maxHeartbeats 2000000 in
theorem dstate_any (w : World) (h : IsDisk w G pd pp D) (hp : IsPow w G pp P) : Calls Tryz.prog 38 #[.pointer (some ⟨pd, 0, none⟩)] w fun e w' => e = .returned (.int .i64 (D.state P)) ∧ Below w.heap.size w w' := by
  obtain ⟨pc, A, c, h⟩ := h
  obtain ⟨_, _, _, _, _, _, _, k12, k13, _, k15, hl⟩ := h.cells
  obtain ⟨x, p0, _, _, p3, _, hlp, _⟩ := hp.cells
  clear h hp
  cases hd : D.dead with
  | true =>
    rw [hd] at k15
    rw [Dsk.state_dead hd]
    clear hd
    go_enter Tryz.func38, Tryz.ntmps38
    go_wp2
    go_ret
    exact ⟨rfl, (by repeat (first | (with_reducible exact Below.refl _ _) | (with_reducible refine Below.drew ?_) | (with_reducible refine below_drw ?_ _) | (with_reducible refine below_alloc ?_ _) | (with_reducible refine below_set ?_ (by simp <;> omega) _) | (refine below_of (by assumption) ?_)))⟩
  | false =>
    rw [hd] at k15
    cases ho : P.off with
    | true =>
      rw [ho] at p0
      rw [Dsk.state_off hd ho]
      clear hd ho
      go_enter Tryz.func38, Tryz.ntmps38
      go_wp2
      go_region
      all_goals (try go_wp2)
      all_goals go_ret
      all_goals exact ⟨rfl, (by repeat (first | (with_reducible exact Below.refl _ _) | (with_reducible refine Below.drew ?_) | (with_reducible refine below_drw ?_ _) | (with_reducible refine below_alloc ?_ _) | (with_reducible refine below_set ?_ (by simp <;> omega) _) | (refine below_of (by assumption) ?_)))⟩
    | false =>
      rw [ho] at p0
      by_cases hs : D.seen = P.fails
      · rw [Dsk.state_ok hd ho hs]
        rw [hs] at k13
        clear hd ho hs
        go_enter Tryz.func38, Tryz.ntmps38
        go_wp2
        go_region
        all_goals (try go_wp2)
        all_goals go_ret
        all_goals exact ⟨rfl, (by repeat (first | (with_reducible exact Below.refl _ _) | (with_reducible refine Below.drew ?_) | (with_reducible refine below_drw ?_ _) | (with_reducible refine below_alloc ?_ _) | (with_reducible refine below_set ?_ (by simp <;> omega) _) | (refine below_of (by assumption) ?_)))⟩
      · rw [Dsk.state_seen hd hs]
        have hb : (D.seen != P.fails) = true := by simpa using hs
        clear hd ho hs
        go_enter Tryz.func38, Tryz.ntmps38
        go_wp2
        go_region
        all_goals (try go_wp2)
        all_goals go_ret
        all_goals exact ⟨rfl, (by repeat (first | (with_reducible exact Below.refl _ _) | (with_reducible refine Below.drew ?_) | (with_reducible refine below_drw ?_ _) | (with_reducible refine below_alloc ?_ _) | (with_reducible refine below_set ?_ (by simp <;> omega) _) | (refine below_of (by assumption) ?_)))⟩

set_option maxHeartbeats 2000000 in
theorem dacquire_any (key : Int) (w : World) (h : IsDisk w G pd pp D) (hp : IsPow w G pp P) : Calls Tryz.prog 13 #[.pointer (some ⟨pd, 0, none⟩), .int .u64 key] w fun e w' =>
    e = .returned (.int .i64 (D.state P)) ∧ IsDisk w' G pd pp (if D.state P = 0 then { D with key := key } else D) ∧ FrG G diskTs w w' := by
  by_cases hE : D.state P = 0
  · rw [if_pos hE]
    have HE := Lib.hid hE
    have H := Lib.hid h
    have HP := Lib.hid hp
    clear h hp hE
    go_enter Tryz.func13, Tryz.ntmps13
    go_wp2_with (go_at_call 38; refine (dstate_any _ H.out HP.out).mono ?_; rintro e w1 ⟨rfl, hb⟩; rw [HE.out]; obtain ⟨pc, A, c, h1⟩ := H.out.below hb; obtain ⟨_, _, _, _, _, _, _, _, _, k14, _, hl⟩ := h1.cells; have f14 := h1.fz 14; have H1 := Lib.hid h1; have B1 := Lib.hid hb; clear h1 hb)
    go_ret
    obtain ⟨g1, g2⟩ := H1.out.store (D' := { D with key := key }) (i := 14) (v := .int .u64 key) rfl rfl rfl rfl
    exact ⟨by rw [HE.out] <;> rfl, ⟨pc, A, c, g1⟩, (FrG.ofBelow B1.out).trans g2⟩
  · rw [if_neg hE]
    obtain ⟨x, hx⟩ : ∃ x, D.state P = x := ⟨_, rfl⟩
    have X1 : (x != 0) = true := by rw [hx] at hE; simpa using hE
    have HX := Lib.hid hx
    have H := Lib.hid h
    have HP := Lib.hid hp
    clear h hp hE hx
    go_enter Tryz.func13, Tryz.ntmps13
    go_wp2_with (go_at_call 38; refine (dstate_any _ H.out HP.out).mono ?_; rintro e w1 ⟨rfl, hb⟩; rw [HX.out]; have B1 := Lib.hid hb; clear hb)
    go_ret
    exact ⟨by rw [HX.out] <;> rfl, H.out.below B1.out, FrG.ofBelow B1.out⟩

set_option maxHeartbeats 2000000 in
theorem dhas_any (a : Int) (w : World) (h : IsDisk w G pd pp D) : Calls Tryz.prog 53 #[.pointer (some ⟨pd, 0, none⟩), .int .i64 a] w fun e w' => e = .returned (.bool (D.has a)) ∧ Below w.heap.size w w' := by
  obtain ⟨pc, A, c, h⟩ := h
  obtain ⟨g0, g1, g2, g3, g4⟩ := h.geoCells
  have hl := h.hasD.lt
  clear h
  by_cases ha : a < 0
  · have e1 : D.has a = false := by unfold Dsk.has; simp; omega
    rw [e1]
    clear e1
    go_enter Tryz.func53, Tryz.ntmps53
    go_wp2
    go_ret
    exact ⟨rfl, (by repeat (first | (with_reducible exact Below.refl _ _) | (with_reducible refine Below.drew ?_) | (with_reducible refine below_drw ?_ _) | (with_reducible refine below_alloc ?_ _) | (with_reducible refine below_set ?_ (by simp <;> omega) _) | (refine below_of (by assumption) ?_)))⟩
  · have e1 : D.has a = decide (a < (Geo.mk D.g.r D.g.b D.g.t D.g.s D.g.o).size) := by unfold Dsk.has; simp; intro _; omega
    rw [e1]
    have ha0 : 0 ≤ a := by omega
    clear e1 ha
    go_enter Tryz.func53, Tryz.ntmps53
    go_wp2_with (go_at_call 78; refine (size_any _ _ _ _ _ _).mono ?_; rintro e w' ⟨rfl, hb⟩; (first | ((first | have hB1 := below_of hb hB | have hB1 := below_of hb (Below.drew hB) | have hB1 := below_of hb (below_drw hB _)); clear hB hb hc hf hz; have hB := hB1; clear hB1; obtain ⟨hc, hf, hz⟩ := bcell hB) | ((first | have hB1 := below_of hb (below_alloc hB _) | have hB1 := below_of hb (below_alloc (below_alloc hB _) _) | have hB1 := below_of hb (below_alloc (below_alloc (below_alloc hB _) _) _) | have hB1 := below_of hb (below_alloc (below_alloc (below_alloc (below_alloc hB _) _) _) _) | have hB1 := below_of hb (below_alloc (below_alloc (below_alloc (below_alloc (below_alloc hB _) _) _) _) _) | have hB1 := below_of hb (Below.drew (below_alloc hB _)) | have hB1 := below_of hb (Below.drew (below_alloc (below_alloc hB _) _)) | have hB1 := below_of hb (Below.drew (below_alloc (below_alloc (below_alloc hB _) _) _)) | have hB1 := below_of hb (Below.drew (below_alloc (below_alloc (below_alloc (below_alloc hB _) _) _) _)) | have hB1 := below_of hb (Below.drew (below_alloc (below_alloc (below_alloc (below_alloc (below_alloc hB _) _) _) _) _)) | have hB1 := below_of hb (below_drw (below_alloc hB _) _) | have hB1 := below_of hb (below_drw (below_alloc (below_alloc hB _) _) _) | have hB1 := below_of hb (below_drw (below_alloc (below_alloc (below_alloc hB _) _) _) _) | have hB1 := below_of hb (below_drw (below_alloc (below_alloc (below_alloc (below_alloc hB _) _) _) _) _) | have hB1 := below_of hb (below_drw (below_alloc (below_alloc (below_alloc (below_alloc (below_alloc hB _) _) _) _) _) _)); clear hB hc hf hz; have hB := hB1; clear hB1; obtain ⟨hc, hf, hz⟩ := bcell hB; obtain ⟨hc_, hf_, hz_⟩ := bcell hb; clear hb) | (have hB := hb; clear hb; obtain ⟨hc, hf, hz⟩ := bcell hB)))
    all_goals go_ret
    all_goals exact ⟨rfl, (by repeat (first | (with_reducible exact Below.refl _ _) | (with_reducible refine Below.drew ?_) | (with_reducible refine below_drw ?_ _) | (with_reducible refine below_alloc ?_ _) | (with_reducible refine below_set ?_ (by simp <;> omega) _) | (refine below_of (by assumption) ?_)))⟩

/-- call: the power supply behind it, and whether the power is on. -/
theorem Pow.call_off {P : Pow} (h : P.off = false) : P.call.off = (P.armed && decide (P.left = 0)) := by
  unfold Pow.call
  cases ha : P.armed
  · simp [h]
  · by_cases hl : P.left = 0 <;> simp [hl, h]
set_option maxHeartbeats 4000000 in
theorem dcall_any (w : World) (hp : IsPow w G pp P) (hoff : P.off = false) : Calls Tryz.prog 80 #[.pointer (some ⟨pp, 0, none⟩)] w fun e w' => e = .returned (.bool !P.call.off) ∧ IsPow w' G pp P.call ∧ Fr (· = pp) w w' := by
  obtain ⟨x, p0, p1, p2, p3, hx, hlp, f0, f1, f2, f3⟩ := hp.cells
  rw [hoff] at p0
  have hG := hp.1
  obtain ⟨off, armed, left, fails⟩ := P
  simp only at hoff hx p1 p3
  subst hoff
  cases armed with
  | false =>
    have e1 : (Pow.mk false false left fails).call = ⟨false, false, left, fails⟩ := rfl
    rw [e1]
    have HP := Lib.hid hp
    clear hp hx e1
    go_enter Tryz.func80, Tryz.ntmps80
    go_wp2
    go_ret
    obtain ⟨h0, y, h1, h2⟩ := HP.out
    exact ⟨rfl, ⟨h0, _, head_set h1 2 _, fun h => by cases h⟩, fr_one _ _ _ _⟩
  | true =>
    have hx := hx rfl
    subst hx
    by_cases h0 : x = 0
    · subst h0
      have e1 : (Pow.mk false true 0 fails).call = ⟨true, false, 0, inc fails⟩ := rfl
      rw [e1]
      have HP := Lib.hid hp
      clear hp e1
      go_enter Tryz.func80, Tryz.ntmps80
      go_wp2
      go_ret
      obtain ⟨h0, y, h1, h2⟩ := HP.out
      have F := (((fr_one w pp 0 (.bool true)).trans (fr_one _ pp 1 (.bool false))).trans (fr_one _ pp 3 (.int .i64 (inc fails)))).trans (fr_one _ pp 2 (.int .i64 (-1)))
      refine ⟨rfl, ⟨h0, _, head_set (head_set (head_set (head_set h1 0 _) 1 _) 3 _) 2 _, fun h => by cases h⟩, ?_⟩
      exact F
    · have hb : (x == 0) = false := by simpa using h0
      have e1 : (Pow.mk false true x fails).call = ⟨false, true, dec x, fails⟩ := by unfold Pow.call; simp [h0]
      rw [e1]
      have HP := Lib.hid hp
      clear hp e1 h0
      go_enter Tryz.func80, Tryz.ntmps80
      go_wp2
      go_ret
      obtain ⟨h0, y, h1, h2⟩ := HP.out
      exact ⟨rfl, ⟨h0, _, head_set h1 2 _, fun _ => rfl⟩, fr_one _ _ _ _⟩
end
end Go.Proofs.YtmloiifnadaaoaaGreat
