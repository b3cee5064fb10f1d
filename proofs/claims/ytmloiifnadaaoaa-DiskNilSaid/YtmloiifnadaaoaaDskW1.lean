/- The walks of package disk: the small methods. -/
import Derived.Test.YtmloiifnadaaoaaDskH
namespace Go.Proofs.Ytmloiifnadaaoaa
open Go.RowKit
set_option linter.unusedVariables false
set_option linter.unusedSimpArgs false

theorem dnewPower_any (w : World) : Calls Try.prog 82 #[] w fun e w' => ∃ pp, e = .returned (.pointer (some ⟨pp, 0, none⟩)) ∧ w.heap.size ≤ pp ∧ IsPow w' (fun k => w.heap.size ≤ k) pp Pow.new ∧ Below w.heap.size w w' := by
  go_enter Try.func82, Try.ntmps82
  go_wp2
  go_ret
  exact ⟨_, rfl, Nat.le_refl _, ⟨Nat.le_refl _, 0, heap_alloc_new _ _, fun _ => rfl⟩, (by repeat (first | (with_reducible exact Below.refl _ _) | (with_reducible refine Below.drew ?_) | (with_reducible refine below_drw ?_ _) | (with_reducible refine below_alloc ?_ _) | (with_reducible refine below_set ?_ (by simp <;> omega) _) | (refine below_of (by assumption) ?_)))⟩

theorem dgeometry_nil (w : World) : Calls Try.prog 85 #[.pointer none] w fun e w' => e = .returned (.agg #[.int .i64 0, .int .i64 0, .int .i64 0, .int .i64 0, .int .i64 0]) ∧ Below w.heap.size w w' := by
  go_enter Try.func85, Try.ntmps85
  go_wp2
  exact bodyPost_ret (v := .agg #[.int .i64 0, .int .i64 0, .int .i64 0, .int .i64 0, .int .i64 0]) (by simp [results, Try.results85, go_sem]) rfl ⟨rfl, (by repeat (first | (with_reducible exact Below.refl _ _) | (with_reducible refine Below.drew ?_) | (with_reducible refine below_drw ?_ _) | (with_reducible refine below_alloc ?_ _) | (with_reducible refine below_set ?_ (by simp <;> omega) _) | (refine below_of (by assumption) ?_)))⟩
theorem dstats_nil (w : World) : Calls Try.prog 90 #[.pointer none] w fun e w' => e = .returned (.agg #[.int .i64 0, .int .i64 0, .int .i64 0, .int .i64 0]) ∧ Below w.heap.size w w' := by
  go_enter Try.func90, Try.ntmps90
  go_wp2
  exact bodyPost_ret (v := .agg #[.int .i64 0, .int .i64 0, .int .i64 0, .int .i64 0]) (by simp [results, Try.results90, go_sem]) rfl ⟨rfl, (by repeat (first | (with_reducible exact Below.refl _ _) | (with_reducible refine Below.drew ?_) | (with_reducible refine below_drw ?_ _) | (with_reducible refine below_alloc ?_ _) | (with_reducible refine below_set ?_ (by simp <;> omega) _) | (refine below_of (by assumption) ?_)))⟩
theorem ddead_nil (w : World) : Calls Try.prog 86 #[.pointer none] w fun e w' => e = .returned (.bool false) ∧ w = w' := by
  go_enter Try.func86, Try.ntmps86
  go_wp2
  go_ret
  exact ⟨rfl, rfl⟩
theorem dops_nil (w : World) : Calls Try.prog 87 #[.pointer none] w fun e w' => e = .returned (.int .i64 0) ∧ w = w' := by
  go_enter Try.func87, Try.ntmps87
  go_wp2
  go_ret
  exact ⟨rfl, rfl⟩
theorem dpending_nil (w : World) : Calls Try.prog 88 #[.pointer none] w fun e w' => e = .returned (.int .i64 0) ∧ w = w' := by
  go_enter Try.func88, Try.ntmps88
  go_wp2
  go_ret
  exact ⟨rfl, rfl⟩
theorem dstateOf_nil (a : Int) (w : World) : Calls Try.prog 89 #[.pointer none, .int .i64 a] w fun e w' => e = .returned (.int .i64 0) ∧ w = w' := by
  go_enter Try.func89, Try.ntmps89
  go_wp2
  go_ret
  exact ⟨rfl, rfl⟩
theorem darm_nil (a : Int) (w : World) : Calls Try.prog 93 #[.pointer none, .int .i64 a] w fun e w' => e = .returned (.tuple #[]) ∧ w = w' := by
  go_enter Try.func93, Try.ntmps93
  go_wp2
  go_end0
  exact ⟨rfl, rfl⟩
theorem don_nil (w : World) : Calls Try.prog 97 #[.pointer none] w fun e w' => e = .returned (.tuple #[]) ∧ w = w' := by
  go_enter Try.func97, Try.ntmps97
  go_wp2
  go_end0
  exact ⟨rfl, rfl⟩
theorem doff_nil (w : World) : Calls Try.prog 95 #[.pointer none] w fun e w' => e = .returned (.bool false) ∧ w = w' := by
  go_enter Try.func95, Try.ntmps95
  go_wp2
  go_ret
  exact ⟨rfl, rfl⟩
theorem dkill_nil (w : World) : Calls Try.prog 107 #[.pointer none] w fun e w' => e = .returned (.tuple #[]) ∧ w = w' := by
  go_enter Try.func107, Try.ntmps107
  go_wp2
  go_end0
  exact ⟨rfl, rfl⟩
theorem dstate_nil (w : World) : Calls Try.prog 127 #[.pointer none] w fun e w' => e = .returned (.int .i64 8) ∧ w = w' := by
  go_enter Try.func127, Try.ntmps127
  go_wp2
  go_ret
  exact ⟨rfl, rfl⟩
theorem dacquire_nil (k : Int) (w : World) : Calls Try.prog 100 #[.pointer none, .int .u64 k] w fun e w' => e = .returned (.int .i64 8) ∧ w = w' := by
  go_enter Try.func100, Try.ntmps100
  go_wp2_with ((go_at_call 127; refine (dstate_nil _).mono ?_; rintro e w' ⟨rfl, rfl⟩))
  go_ret
  exact ⟨rfl, rfl⟩
theorem drestart_nil (k : Int) (w : World) : Calls Try.prog 96 #[.pointer none, .int .i64 k] w fun e w' => e = .returned (.int .i64 8) ∧ w = w' := by
  go_enter Try.func96, Try.ntmps96
  go_wp2
  go_ret
  exact ⟨rfl, rfl⟩
theorem dperform_nil (k : Int) (v : Value) (w : World) : Calls Try.prog 125 #[.pointer none, .int .u64 k, v] w fun e w' => e = .returned (.int .i64 8) ∧ w = w' := by
  go_enter Try.func125, Try.ntmps125
  go_wp2_with ((go_at_call 127; refine (dstate_nil _).mono ?_; rintro e w' ⟨rfl, rfl⟩))
  go_ret
  exact ⟨rfl, rfl⟩
theorem dread_nil (k a : Int) (w : World) : Calls Try.prog 104 #[.pointer none, .int .u64 k, .int .i64 a] w fun e w' => e = .returned (.tuple #[.slice none 0 0, .int .i64 8]) ∧ Below w.heap.size w w' := by
  go_enter Try.func104, Try.ntmps104
  go_wp2_with ((go_at_call 125; refine (dperform_nil _ _ _).mono ?_; rintro e w' ⟨rfl, rfl⟩))
  go_ret2
  exact ⟨rfl, (by repeat (first | (with_reducible exact Below.refl _ _) | (with_reducible refine Below.drew ?_) | (with_reducible refine below_drw ?_ _) | (with_reducible refine below_alloc ?_ _) | (with_reducible refine below_set ?_ (by simp <;> omega) _) | (refine below_of (by assumption) ?_)))⟩
theorem dwrite_nil (k a : Int) (A : Option Addr) (n c : Nat) (f : Bool) (w : World) : Calls Try.prog 108 #[.pointer none, .int .u64 k, .int .i64 a, .slice A n c, .bool f] w fun e w' => e = .returned (.int .i64 8) ∧ Below w.heap.size w w' := by
  go_enter Try.func108, Try.ntmps108
  go_wp2_with ((go_at_call 125; refine (dperform_nil _ _ _).mono ?_; rintro e w' ⟨rfl, rfl⟩))
  go_ret
  exact ⟨rfl, (by repeat (first | (with_reducible exact Below.refl _ _) | (with_reducible refine Below.drew ?_) | (with_reducible refine below_drw ?_ _) | (with_reducible refine below_alloc ?_ _) | (with_reducible refine below_set ?_ (by simp <;> omega) _) | (refine below_of (by assumption) ?_)))⟩
theorem derase_nil (k a : Int) (w : World) : Calls Try.prog 109 #[.pointer none, .int .u64 k, .int .i64 a] w fun e w' => e = .returned (.int .i64 8) ∧ Below w.heap.size w w' := by
  go_enter Try.func109, Try.ntmps109
  go_wp2_with ((go_at_call 125; refine (dperform_nil _ _ _).mono ?_; rintro e w' ⟨rfl, rfl⟩))
  go_ret
  exact ⟨rfl, (by repeat (first | (with_reducible exact Below.refl _ _) | (with_reducible refine Below.drew ?_) | (with_reducible refine below_drw ?_ _) | (with_reducible refine below_alloc ?_ _) | (with_reducible refine below_set ?_ (by simp <;> omega) _) | (refine below_of (by assumption) ?_)))⟩
theorem dflush_nil (k : Int) (w : World) : Calls Try.prog 94 #[.pointer none, .int .u64 k] w fun e w' => e = .returned (.int .i64 8) ∧ Below w.heap.size w w' := by
  go_enter Try.func94, Try.ntmps94
  go_wp2_with ((go_at_call 125; refine (dperform_nil _ _ _).mono ?_; rintro e w' ⟨rfl, rfl⟩))
  go_ret
  exact ⟨rfl, (by repeat (first | (with_reducible exact Below.refl _ _) | (with_reducible refine Below.drew ?_) | (with_reducible refine below_drw ?_ _) | (with_reducible refine below_alloc ?_ _) | (with_reducible refine below_set ?_ (by simp <;> omega) _) | (refine below_of (by assumption) ?_)))⟩

section
variable {G : Nat → Prop} {pd pp : Nat} {D : Dsk} {P : Pow}
set_option maxHeartbeats 1000000 in
theorem dgeometry_any (w : World) (h : IsDisk w G pd pp D) : Calls Try.prog 85 #[.pointer (some ⟨pd, 0, none⟩)] w fun e w' => e = .returned (.agg #[.int .i64 D.g.r, .int .i64 D.g.b, .int .i64 D.g.t, .int .i64 D.g.s, .int .i64 D.g.o]) ∧ Below w.heap.size w w' := by
  obtain ⟨pc, A, c, h⟩ := h
  obtain ⟨g0, g1, g2, g3, g4⟩ := h.geoCells
  have hl := h.hasD.lt
  have hne : pd ≠ w.heap.size := by omega
  clear h
  go_enter Try.func85, Try.ntmps85
  go_wp2
  refine bodyPost_ret (v := .agg #[.int .i64 D.g.r, .int .i64 D.g.b, .int .i64 D.g.t, .int .i64 D.g.s, .int .i64 D.g.o]) (by simp [results, Try.results85, go_sem]) rfl ⟨rfl, (by repeat (first | (with_reducible exact Below.refl _ _) | (with_reducible refine Below.drew ?_) | (with_reducible refine below_drw ?_ _) | (with_reducible refine below_alloc ?_ _) | (with_reducible refine below_set ?_ (by simp <;> omega) _) | (refine below_of (by assumption) ?_)))⟩
set_option maxHeartbeats 1000000 in
theorem dstats_any (w : World) (h : IsDisk w G pd pp D) : Calls Try.prog 90 #[.pointer (some ⟨pd, 0, none⟩)] w fun e w' => e = .returned (.agg #[.int .i64 D.s0, .int .i64 D.s1, .int .i64 D.s2, .int .i64 D.s3]) ∧ Below w.heap.size w w' := by
  obtain ⟨pc, A, c, h⟩ := h
  obtain ⟨k0, k1, k2, k3, _⟩ := h.cells
  have hl := h.hasD.lt
  have hne : pd ≠ w.heap.size := by omega
  clear h
  go_enter Try.func90, Try.ntmps90
  go_wp2
  refine bodyPost_ret (v := .agg #[.int .i64 D.s0, .int .i64 D.s1, .int .i64 D.s2, .int .i64 D.s3]) (by simp [results, Try.results90, go_sem]) rfl ⟨rfl, (by repeat (first | (with_reducible exact Below.refl _ _) | (with_reducible refine Below.drew ?_) | (with_reducible refine below_drw ?_ _) | (with_reducible refine below_alloc ?_ _) | (with_reducible refine below_set ?_ (by simp <;> omega) _) | (refine below_of (by assumption) ?_)))⟩
theorem ddead_any (w : World) (h : IsDisk w G pd pp D) : Calls Try.prog 86 #[.pointer (some ⟨pd, 0, none⟩)] w fun e w' => e = .returned (.bool D.dead) ∧ w = w' := by
  obtain ⟨pc, A, c, h⟩ := h
  obtain ⟨_, _, _, _, _, _, _, _, _, _, k15, _⟩ := h.cells
  clear h
  go_enter Try.func86, Try.ntmps86
  go_wp2
  all_goals go_ret
  all_goals exact ⟨rfl, rfl⟩
theorem dops_any (w : World) (h : IsDisk w G pd pp D) : Calls Try.prog 87 #[.pointer (some ⟨pd, 0, none⟩)] w fun e w' => e = .returned (.int .i64 D.count) ∧ w = w' := by
  obtain ⟨pc, A, c, h⟩ := h
  obtain ⟨_, _, _, _, k4, _⟩ := h.cells
  clear h
  go_enter Try.func87, Try.ntmps87
  go_wp2
  go_ret
  exact ⟨rfl, rfl⟩
theorem dpending_any (w : World) (h : IsDisk w G pd pp D) : Calls Try.prog 88 #[.pointer (some ⟨pd, 0, none⟩)] w fun e w' => e = .returned (.int .i64 (D.c.l.length : Int)) ∧ w = w' := by
  obtain ⟨pc, A, c, h⟩ := h
  obtain ⟨_, _, _, _, _, k10, _⟩ := h.cells
  have C := Lib.hid h.cache.toC
  clear h
  go_enter Try.func88, Try.ntmps88
  go_wp2_with ((go_at_call 66; refine (cpending_any 0 pc D.c.d D.c.l _ C.out).mono ?_; rintro e w' ⟨rfl, rfl⟩))
  go_ret
  exact ⟨rfl, rfl⟩
theorem dstateOf_any (a : Int) (w : World) (h : IsDisk w G pd pp D) : Calls Try.prog 89 #[.pointer (some ⟨pd, 0, none⟩), .int .i64 a] w fun e w' => e = .returned (.int .i64 (D.m.state a)) ∧ w = w' := by
  obtain ⟨pc, A, c, h⟩ := h
  obtain ⟨_, _, _, _, _, k10, _⟩ := h.cells
  have C := Lib.hid h.cache.toC
  clear h
  go_enter Try.func89, Try.ntmps89
  go_wp2_with ((go_at_call 79; refine (cstate_any 0 pc D.c.d D.c.l a _ C.out).mono ?_; rintro e w' ⟨rfl, rfl⟩))
  go_ret
  exact ⟨rfl, rfl⟩
theorem doff_any (w : World) (h : IsPow w G pp P) : Calls Try.prog 95 #[.pointer (some ⟨pp, 0, none⟩)] w fun e w' => e = .returned (.bool P.off) ∧ w = w' := by
  obtain ⟨x, k0, _⟩ := h.cells
  clear h
  go_enter Try.func95, Try.ntmps95
  go_wp2
  all_goals go_ret
  all_goals exact ⟨rfl, rfl⟩
set_option maxHeartbeats 1000000 in
theorem don_any (w : World) (h : IsPow w G pp P) : Calls Try.prog 97 #[.pointer (some ⟨pp, 0, none⟩)] w fun e w' => e = .returned (.tuple #[]) ∧ IsPow w' G pp P.on ∧ Fr (· = pp) w w' := by
  obtain ⟨x, k0, _, _, _, _, hl, f0, _⟩ := h.cells
  have H := Lib.hid h
  clear h
  go_enter Try.func97, Try.ntmps97
  go_wp2
  go_end0
  obtain ⟨h0, y, h1, h2⟩ := H.out
  exact ⟨rfl, ⟨h0, y, head_set h1 0 _, h2⟩, fr_one _ _ _ _⟩
set_option maxHeartbeats 2000000 in
theorem darm_any (n : Int) (w : World) (h : IsPow w G pp P) : Calls Try.prog 93 #[.pointer (some ⟨pp, 0, none⟩), .int .i64 n] w fun e w' => e = .returned (.tuple #[]) ∧ IsPow w' G pp (P.arm n) ∧ Fr (· = pp) w w' := by
  obtain ⟨x, k0, k1, k2, _, _, hl, _, f1, f2, _⟩ := h.cells
  have H := Lib.hid h
  clear h
  obtain ⟨off, armed, left, fails⟩ := P
  cases off with
  | true =>
    go_enter Try.func93, Try.ntmps93
    go_wp2
    go_end0
    exact ⟨rfl, H.out, Fr.refl _ _⟩
  | false =>
    go_enter Try.func93, Try.ntmps93
    go_wp2
    go_end0
    obtain ⟨h0, y, h1, h2⟩ := H.out
    have F := (fr_one w pp 1 (.bool (decide (0 ≤ n)))).trans (fr_one _ pp 2 (.int .i64 n))
    exact ⟨rfl, ⟨h0, n, head_set (head_set h1 1 _) 2 _, fun _ => rfl⟩, F⟩
set_option maxHeartbeats 1000000 in
theorem dkill_any (w : World) (h : IsDisk w G pd pp D) : Calls Try.prog 107 #[.pointer (some ⟨pd, 0, none⟩)] w fun e w' => e = .returned (.tuple #[]) ∧ IsDisk w' G pd pp { D with dead := true } ∧ Fr (· = pd) w w' := by
  obtain ⟨pc, A, c, h⟩ := h
  obtain ⟨_, _, _, _, _, _, _, _, _, _, k15, hl⟩ := h.cells
  have f15 := h.fz 15
  have H := Lib.hid h
  clear h
  go_enter Try.func107, Try.ntmps107
  go_wp2
  go_end0
  exact ⟨rfl, ⟨pc, A, c, (H.out.store (D' := { D with dead := true }) (i := 15) rfl rfl rfl rfl).1⟩, fr_one _ _ _ _⟩
end
end Go.Proofs.Ytmloiifnadaaoaa
