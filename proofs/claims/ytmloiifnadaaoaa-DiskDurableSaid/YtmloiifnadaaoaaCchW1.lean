/- The walks of package cache: the closures; State, Read, Pending, Durable, Clone, New. -/
import Derived.Test.YtmloiifnadaaoaaCchH
namespace Go.Proofs.Ytmloiifnadaaoaa
open Go.RowKit
set_option linter.unusedVariables false
set_option linter.unusedSimpArgs false

set_option maxHeartbeats 1000000 in
/-- The closure of Write. -/
theorem wclos_any (p q cap : Nat) (m : Med) (a b : Nat) (at_ : Int) (A : Option Addr) (l : List UInt8) (c : Nat) (w : World) (h : IsMed w p q cap m) (ca : w.cell? ⟨a, 0, none⟩ = some (.int .i64 at_)) (cb : w.cell? ⟨b, 0, none⟩ = some (.slice A l.length c)) (hl : BytesRd w A l) (hlen : l.length ≤ 140737488351232) :
    Calls Try.prog 119 #[.pointer (some ⟨p, 0, none⟩), .pointer (some ⟨a, 0, none⟩), .pointer (some ⟨b, 0, none⟩)] w (OpIs (m.writeE at_ l) p q cap (m.write at_ l) w) := by
  have H := Lib.hid h
  have Hl := Lib.hid hl
  clear h hl
  go_enter Try.func119, Try.ntmps119
  go_wp2_with (go_at_call 47; refine (write_any p q cap m at_ A l c _ H.out Hl.out hlen).mono ?_; rintro e w' ⟨rfl, hM, hF⟩; have HM := Lib.hid hM; have HF := Lib.hid hF; clear hM hF)
  go_ret
  exact ⟨rfl, HM.out, HF.out⟩
set_option maxHeartbeats 1000000 in
/-- The closure of Erase. -/
theorem eclos_any (p q cap : Nat) (m : Med) (b : Nat) (k : Int) (w : World) (h : IsMed w p q cap m) (cb : w.cell? ⟨b, 0, none⟩ = some (.int .i64 k)) :
    Calls Try.prog 122 #[.pointer (some ⟨p, 0, none⟩), .pointer (some ⟨b, 0, none⟩)] w (OpIs (m.eraseE k) p q cap (m.erase k) w) := by
  have H := Lib.hid h
  clear h
  go_enter Try.func122, Try.ntmps122
  go_wp2_with (go_at_call 51; refine (erase_any p q cap m k _ H.out).mono ?_; rintro e w' ⟨rfl, hM, hF⟩; have HM := Lib.hid hM; have HF := Lib.hid hF; clear hM hF)
  go_ret
  exact ⟨rfl, HM.out, HF.out⟩

set_option maxHeartbeats 1000000 in
theorem cstate_any (N pc : Nat) (d : Med) (l : List Opn) (a : Int) (w : World) (h : IsCache w N pc d l) :
    Calls Try.prog 79 #[.pointer (some ⟨pc, 0, none⟩), .int .i64 a] w fun e w' => e = .returned (.int .i64 ((d.ops l).state a)) ∧ w = w' := by
  obtain ⟨p1, q1, n1, p2, q2, n2, v, xs, h⟩ := h
  have c0 := h.c0
  have c1 := h.c1
  have M := Lib.hid h.con
  clear h
  generalize d.ops l = m at *
  go_enter Try.func79, Try.ntmps79
  go_wp2_with ((go_at_call 52; refine (state_any p2 q2 n2 m a _ M.out).mono ?_; rintro e w' ⟨rfl, rfl⟩))
  go_ret
  exact ⟨rfl, rfl⟩
theorem cstate_nil (a : Int) (w : World) : Calls Try.prog 79 #[.pointer none, .int .i64 a] w fun e w' => e = .returned (.int .i64 0) ∧ w = w' := by
  go_enter Try.func79, Try.ntmps79
  go_wp2
  go_ret
  exact ⟨rfl, rfl⟩
set_option maxHeartbeats 1000000 in
theorem cread_any (N pc : Nat) (d : Med) (l : List Opn) (a : Int) (w : World) (h : IsCache w N pc d l) :
    Calls Try.prog 78 #[.pointer (some ⟨pc, 0, none⟩), .int .i64 a] w (ReadIs (d.ops l) a w) := by
  obtain ⟨p1, q1, n1, p2, q2, n2, v, xs, h⟩ := h
  have c0 := h.c0
  have c1 := h.c1
  have M := Lib.hid h.con
  clear h
  generalize d.ops l = m at *
  go_enter Try.func78, Try.ntmps78
  go_wp2_with (go_at_call 48; refine (read_any p2 q2 n2 m a _ M.out).mono ?_; rintro e w' ⟨A, c, rfl, hbt, hb⟩; have Hbt := Lib.hid hbt; have Hb := Lib.hid hb; clear hbt hb)
  go_ret2
  exact ⟨A, c, rfl, Hbt.out, Hb.out⟩
theorem cread_nil (a : Int) (w : World) : Calls Try.prog 78 #[.pointer none, .int .i64 a] w fun e w' => e = .returned (.tuple #[.slice none 0 0, .int .i64 8]) ∧ w = w' := by
  go_enter Try.func78, Try.ntmps78
  go_wp2
  go_ret2
  exact ⟨rfl, rfl⟩
set_option maxHeartbeats 1000000 in
theorem cpending_any (N pc : Nat) (d : Med) (l : List Opn) (w : World) (h : IsCache w N pc d l) :
    Calls Try.prog 66 #[.pointer (some ⟨pc, 0, none⟩)] w fun e w' => e = .returned (.int .i64 (l.length : Int)) ∧ w = w' := by
  obtain ⟨p1, q1, n1, p2, q2, n2, v, xs, h⟩ := h
  have c0 := h.c0
  have c2 := h.c2
  obtain ⟨A, c, hv, _, _⟩ := h.form
  rw [hv] at c2
  clear h hv
  go_enter Try.func66, Try.ntmps66
  go_wp2
  go_ret
  exact ⟨rfl, rfl⟩
theorem cpending_nil (w : World) : Calls Try.prog 66 #[.pointer none] w fun e w' => e = .returned (.int .i64 0) ∧ w = w' := by
  go_enter Try.func66, Try.ntmps66
  go_wp2
  go_ret
  exact ⟨rfl, rfl⟩
set_option maxHeartbeats 1000000 in
theorem cdurable_any (N pc : Nat) (d : Med) (l : List Opn) (w : World) (h : IsCache w N pc d l) :
    Calls Try.prog 74 #[.pointer (some ⟨pc, 0, none⟩)] w (CloneIs d w) := by
  obtain ⟨p1, q1, n1, p2, q2, n2, v, xs, h⟩ := h
  have c0 := h.c0
  have M := Lib.hid h.dur
  clear h
  go_enter Try.func74, Try.ntmps74
  go_wp2_with (go_at_call 56; refine (mclone_any p1 q1 n1 d _ M.out).mono ?_; rintro e w' ⟨hb, p, q, n, rfl, hp, hq, hM⟩; have Hb := Lib.hid hb; have HM := Lib.hid hM; clear hb hM)
  go_ret
  exact ⟨Hb.out, p, q, n, rfl, hp, hq, HM.out⟩
theorem cdurable_nil (w : World) : Calls Try.prog 74 #[.pointer none] w fun e w' => e = .returned (.pointer none) ∧ w = w' := by
  go_enter Try.func74, Try.ntmps74
  go_wp2
  go_ret
  exact ⟨rfl, rfl⟩
theorem cclone_nil (w : World) : Calls Try.prog 76 #[.pointer none] w fun e w' => e = .returned (.pointer none) ∧ w = w' := by
  go_enter Try.func76, Try.ntmps76
  go_wp2
  go_ret
  exact ⟨rfl, rfl⟩
theorem cnew_nil (w : World) : Calls Try.prog 62 #[.pointer none] w fun e w' => e = .returned (.pointer none) ∧ w = w' := by
  go_enter Try.func62, Try.ntmps62
  go_wp2
  go_ret
  exact ⟨rfl, rfl⟩
theorem cdo_nil (v : Value) (w : World) : Calls Try.prog 118 #[.pointer none, v] w fun e w' => e = .returned (.int .i64 8) ∧ w = w' := by
  go_enter Try.func118, Try.ntmps118
  go_wp2
  go_ret
  exact ⟨rfl, rfl⟩
theorem ccut_nil (k : Int) (w : World) : Calls Try.prog 72 #[.pointer none, .int .i64 k] w fun e w' => e = .returned (.tuple #[]) ∧ w = w' := by
  go_enter Try.func72, Try.ntmps72
  go_wp2
  exact bodyPost_ret (v := .tuple #[]) (by simp [results, Try.results72, go_sem]) rfl ⟨rfl, rfl⟩
theorem cflush_nil (w : World) : Calls Try.prog 64 #[.pointer none] w fun e w' => e = .returned (.tuple #[]) ∧ w = w' := by
  go_enter Try.func64, Try.ntmps64
  go_wp2
  go_end0
  exact ⟨rfl, rfl⟩
end Go.Proofs.Ytmloiifnadaaoaa
