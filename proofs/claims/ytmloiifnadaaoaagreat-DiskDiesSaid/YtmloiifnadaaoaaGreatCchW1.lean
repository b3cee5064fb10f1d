/- The walks of package cache: the closures; State, Read, Pending, Durable, Clone, New. -/
import Derived.Test.YtmloiifnadaaoaaGreatCchH
namespace Go.Proofs.YtmloiifnadaaoaaGreat
open Go.RowKit
set_option linter.unusedVariables false
set_option linter.unusedSimpArgs false

set_option maxHeartbeats 1000000 in
/-- The closure of Write. -/
theorem wclos_any (p q cap : Nat) (m : Med) (a b : Nat) (at_ : Int) (A : Option Addr) (l : List UInt8) (c : Nat) (w : World) (h : IsMed w p q cap m) (ca : w.cell? ⟨a, 0, none⟩ = some (.int .i64 at_)) (cb : w.cell? ⟨b, 0, none⟩ = some (.slice A l.length c)) (hl : BytesRd w A l) (hlen : l.length ≤ 140737488351232) :
    Calls Tryz.prog 84 #[.pointer (some ⟨p, 0, none⟩), .pointer (some ⟨a, 0, none⟩), .pointer (some ⟨b, 0, none⟩)] w (OpIs (m.writeE at_ l) p q cap (m.write at_ l) w) := by
  have H := Lib.hid h
  have Hl := Lib.hid hl
  clear h hl
  go_enter Tryz.func84, Tryz.ntmps84
  go_wp2_with (go_at_call 85; refine (write_any p q cap m at_ A l c _ H.out Hl.out hlen).mono ?_; rintro e w' ⟨rfl, hM, hF⟩; have HM := Lib.hid hM; have HF := Lib.hid hF; clear hM hF)
  go_ret
  exact ⟨rfl, HM.out, HF.out⟩
set_option maxHeartbeats 1000000 in
/-- The closure of Erase. -/
theorem eclos_any (p q cap : Nat) (m : Med) (b : Nat) (k : Int) (w : World) (h : IsMed w p q cap m) (cb : w.cell? ⟨b, 0, none⟩ = some (.int .i64 k)) :
    Calls Tryz.prog 87 #[.pointer (some ⟨p, 0, none⟩), .pointer (some ⟨b, 0, none⟩)] w (OpIs (m.eraseE k) p q cap (m.erase k) w) := by
  have H := Lib.hid h
  clear h
  go_enter Tryz.func87, Tryz.ntmps87
  go_wp2_with (go_at_call 88; refine (erase_any p q cap m k _ H.out).mono ?_; rintro e w' ⟨rfl, hM, hF⟩; have HM := Lib.hid hM; have HF := Lib.hid hF; clear hM hF)
  go_ret
  exact ⟨rfl, HM.out, HF.out⟩

set_option maxHeartbeats 1000000 in
theorem cstate_any (N pc : Nat) (d : Med) (l : List Opn) (a : Int) (w : World) (h : IsCache w N pc d l) :
    Calls Tryz.prog 75 #[.pointer (some ⟨pc, 0, none⟩), .int .i64 a] w fun e w' => e = .returned (.int .i64 ((d.ops l).state a)) ∧ w = w' := by
  obtain ⟨p1, q1, n1, p2, q2, n2, v, xs, h⟩ := h
  have c0 := h.c0
  have c1 := h.c1
  have M := Lib.hid h.con
  clear h
  generalize d.ops l = m at *
  go_enter Tryz.func75, Tryz.ntmps75
  go_wp2_with ((go_at_call 95; refine (state_any p2 q2 n2 m a _ M.out).mono ?_; rintro e w' ⟨rfl, rfl⟩))
  go_ret
  exact ⟨rfl, rfl⟩
theorem cstate_nil (a : Int) (w : World) : Calls Tryz.prog 75 #[.pointer none, .int .i64 a] w fun e w' => e = .returned (.int .i64 0) ∧ w = w' := by
  go_enter Tryz.func75, Tryz.ntmps75
  go_wp2
  go_ret
  exact ⟨rfl, rfl⟩
set_option maxHeartbeats 1000000 in
theorem cread_any (N pc : Nat) (d : Med) (l : List Opn) (a : Int) (w : World) (h : IsCache w N pc d l) :
    Calls Tryz.prog 57 #[.pointer (some ⟨pc, 0, none⟩), .int .i64 a] w (ReadIs (d.ops l) a w) := by
  obtain ⟨p1, q1, n1, p2, q2, n2, v, xs, h⟩ := h
  have c0 := h.c0
  have c1 := h.c1
  have M := Lib.hid h.con
  clear h
  generalize d.ops l = m at *
  go_enter Tryz.func57, Tryz.ntmps57
  go_wp2_with (go_at_call 86; refine (read_any p2 q2 n2 m a _ M.out).mono ?_; rintro e w' ⟨A, c, rfl, hbt, hb⟩; have Hbt := Lib.hid hbt; have Hb := Lib.hid hb; clear hbt hb)
  go_ret2
  exact ⟨A, c, rfl, Hbt.out, Hb.out⟩
theorem cread_nil (a : Int) (w : World) : Calls Tryz.prog 57 #[.pointer none, .int .i64 a] w fun e w' => e = .returned (.tuple #[.slice none 0 0, .int .i64 8]) ∧ w = w' := by
  go_enter Tryz.func57, Tryz.ntmps57
  go_wp2
  go_ret2
  exact ⟨rfl, rfl⟩
set_option maxHeartbeats 1000000 in
theorem cpending_any (N pc : Nat) (d : Med) (l : List Opn) (w : World) (h : IsCache w N pc d l) :
    Calls Tryz.prog 72 #[.pointer (some ⟨pc, 0, none⟩)] w fun e w' => e = .returned (.int .i64 (l.length : Int)) ∧ w = w' := by
  obtain ⟨p1, q1, n1, p2, q2, n2, v, xs, h⟩ := h
  have c0 := h.c0
  have c2 := h.c2
  obtain ⟨A, c, hv, _, _⟩ := h.form
  rw [hv] at c2
  clear h hv
  go_enter Tryz.func72, Tryz.ntmps72
  go_wp2
  go_ret
  exact ⟨rfl, rfl⟩
theorem cpending_nil (w : World) : Calls Tryz.prog 72 #[.pointer none] w fun e w' => e = .returned (.int .i64 0) ∧ w = w' := by
  go_enter Tryz.func72, Tryz.ntmps72
  go_wp2
  go_ret
  exact ⟨rfl, rfl⟩
theorem cnew_nil (w : World) : Calls Tryz.prog 49 #[.pointer none] w fun e w' => e = .returned (.pointer none) ∧ w = w' := by
  go_enter Tryz.func49, Tryz.ntmps49
  go_wp2
  go_ret
  exact ⟨rfl, rfl⟩
theorem cdo_nil (v : Value) (w : World) : Calls Tryz.prog 83 #[.pointer none, v] w fun e w' => e = .returned (.int .i64 8) ∧ w = w' := by
  go_enter Tryz.func83, Tryz.ntmps83
  go_wp2
  go_ret
  exact ⟨rfl, rfl⟩
theorem ccut_nil (k : Int) (w : World) : Calls Tryz.prog 39 #[.pointer none, .int .i64 k] w fun e w' => e = .returned (.tuple #[]) ∧ w = w' := by
  go_enter Tryz.func39, Tryz.ntmps39
  go_wp2
  exact bodyPost_ret (v := .tuple #[]) (by simp [results, Tryz.results39, go_sem]) rfl ⟨rfl, rfl⟩
theorem cflush_nil (w : World) : Calls Tryz.prog 55 #[.pointer none] w fun e w' => e = .returned (.tuple #[]) ∧ w = w' := by
  go_enter Tryz.func55, Tryz.ntmps55
  go_wp2
  go_end0
  exact ⟨rfl, rfl⟩
end Go.Proofs.YtmloiifnadaaoaaGreat
