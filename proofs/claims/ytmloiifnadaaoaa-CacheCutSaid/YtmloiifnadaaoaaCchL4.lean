/- The walk of awake (tegulalaw12); the laws CacheNil, CacheSteps, CacheFlush. -/
import Derived.Test.YtmloiifnadaaoaaCchL3
namespace Go.Proofs.Ytmloiifnadaaoaa
open Go.RowKit
set_option linter.unusedVariables false
set_option linter.unusedSimpArgs false

theorem below_frT {N : Nat} {Ts : List TypeId} {w W W' : World} (h : Below w.heap.size w W) (hF : FrT N Ts W W') (hN : w.heap.size ≤ N) : Below w.heap.size w W' := h.trans (hF.below0 h.size hN)

def ex12 : Geo := ⟨2, 1, 1, 1, 0⟩
theorem example12_0 : push (Med.new ex12) [] ⟨false, 0, [97]⟩ = [⟨false, 0, [97]⟩] ∧ push (Med.new ex12) [⟨false, 0, [97]⟩] ⟨false, 1, [98]⟩ = [⟨false, 0, [97]⟩, ⟨false, 1, [98]⟩] ∧
    ((Med.new ex12).ops [⟨false, 0, [97]⟩, ⟨false, 1, [98]⟩]).readE 1 = 0 ∧ ((Med.new ex12).ops [⟨false, 0, [97]⟩, ⟨false, 1, [98]⟩]).readB 1 = [98] ∧
    ((Med.new ex12).ops [⟨false, 0, [97]⟩]).readE 0 = 0 ∧ ((Med.new ex12).ops [⟨false, 0, [97]⟩]).readB 0 = [97] ∧ ((Med.new ex12).ops [⟨false, 0, [97]⟩]).state 1 = 0 :=
  ⟨push_ok (by decide), push_ok (by decide), by decide, by decide, by decide, by decide, by decide⟩
theorem example12 : ∃ d d' : Med, ∃ l1 l2 : List Opn, Med.new ex12 = d ∧ push d [] ⟨false, 0, [97]⟩ = l1 ∧ push d l1 ⟨false, 1, [98]⟩ = l2 ∧ d.ops (l2.take (keepN 1 l2)) = d' ∧ l1.length = 1 ∧ l2.length = 2 ∧ (d.ops l2).readE 1 = 0 ∧ (d.ops l2).readB 1 = [98] ∧ (d'.ops []).readE 0 = 0 ∧ (d'.ops []).readB 0 = [97] ∧ (d'.ops []).state 1 = 0 := by
  obtain ⟨h1, h2, h3, h4, h5, h6, h7⟩ := example12_0
  exact ⟨_, _, _, _, rfl, h1, h2, rfl, rfl, rfl, h3, h4, h5, h6, h7⟩

set_option maxHeartbeats 4000000 in
set_option maxRecDepth 1000000 in
theorem awake12_any (w : World) : Calls Try.prog 59 #[] w fun e w' => e = .returned (.bool true) ∧ Below w.heap.size w w' := by
  obtain ⟨d, d', l1, l2, y0, y1, y2, y3, s1, s2, x2, x3, x4, x5, x6⟩ := example12
  have Y0 := Lib.hid y0
  have Y1 := Lib.hid y1
  have Y2 := Lib.hid y2
  have Y3 := Lib.hid y3
  have S1 := Lib.hid s1
  have S2 := Lib.hid s2
  clear y0 y1 y2 y3 s1 s2
  have kc := fun (w : World) (C : Array Value) (n c : Nat) => Lib.run_convert_bytes_const (P := Try.prog) w 38 5 C n c Try.underlying38 Try.underlying5
  go_enter Try.func59, Try.ntmps59
  go_wp2_with (first | (go_at_call 46; refine (new_any _ _ _ _ _ _).mono ?_; rintro e w1 ⟨hb1, h | h⟩; exact absurd h.1 (by decide); obtain ⟨_, p, q, cap, rfl, hp, hq, hM⟩ := h; rw [show Med.new ⟨2, 1, 1, 1, 0⟩ = d from Y0.out] at hM; have M := Lib.hid hM; have D := Lib.hid hb1; clear hM hb1) | (go_at_call 62; refine (cnew_any p q cap d _ M.out).mono ?_; rintro e w2 ⟨hb2, pc, rfl, hC⟩; have C := Lib.hid (hC.mono (show w.heap.size ≤ _ from D.out.size)); have D1 := Lib.hid (below_of hb2 D.out); clear hC hb2) | (go_at_call 63; refine (cwrite_any w.heap.size pc d [] 0 _ [97] 1 _ (C.out.below (by repeat (first | (with_reducible exact Below.refl _ _) | (with_reducible refine Below.drew ?_) | (with_reducible refine below_drw ?_ _) | (with_reducible refine below_alloc ?_ _) | (with_reducible refine below_set ?_ (by simp <;> omega) _) | (refine below_of (by assumption) ?_)))) (bytes_one (by rw [World.cell?_alloc_mark]; rfl)) (by decide) (by decide)).mono ?_; rintro e w3 ⟨rfl, hC, hF⟩; rw [Y1.out] at hC; have C1 := Lib.hid hC; have D2 := Lib.hid (below_frT (below_alloc D1.out _) hF (Nat.le_refl _)); clear C hC hF) | (go_at_call 63; refine (cwrite_any w.heap.size pc d l1 1 _ [98] 1 _ (C1.out.below (by repeat (first | (with_reducible exact Below.refl _ _) | (with_reducible refine Below.drew ?_) | (with_reducible refine below_drw ?_ _) | (with_reducible refine below_alloc ?_ _) | (with_reducible refine below_set ?_ (by simp <;> omega) _) | (refine below_of (by assumption) ?_)))) (bytes_one (by rw [World.cell?_alloc_mark]; rfl)) (by decide) (by rw [S1.out]; decide)).mono ?_; rintro e w4 ⟨rfl, hC, hF⟩; rw [Y2.out] at hC; have C2 := Lib.hid hC; have D3 := Lib.hid (below_frT (below_alloc D2.out _) hF (Nat.le_refl _)); clear C1 hC hF) | (go_at_call 78; refine (cread_any w.heap.size pc d l2 1 _ C2.out).mono ?_; rintro e w5 ⟨A1, c1, rfl, hbt, hB⟩; have t1 := toStr_of hbt.rd c1; have C3 := Lib.hid (C2.out.below hB); have D4 := Lib.hid (below_of hB D3.out); rw [x2, x3]; rw [x3] at t1; (have t2 : (convert 38 9 (.slice A1 1 c1)).run Try.prog w5 = .ok (.string ⟨#[98]⟩) w5 := t1); clear t1; have Bt := Lib.hid hbt; clear C2 hbt hB) | (go_at_call 66; refine (cpending_any w.heap.size pc d l2 _ C3.out).mono ?_; rintro e w6 ⟨rfl, rfl⟩; rw [S2.out]) | (go_at_call 72; refine (ccut_any w.heap.size pc d l2 1 _ C3.out (by rw [S2.out]; decide)).mono ?_; rintro e w7 ⟨rfl, hC, hF⟩; rw [Y3.out] at hC; have C4 := Lib.hid hC; have D5 := Lib.hid (below_frT D4.out hF (Nat.le_refl _)); have Bt7 := Lib.hid (Bt.out.keep hF (fun k hk hh => avoid_TS (Us := [5]) (by decide) k _ hk (by simp) hh)); clear t2 hC hF C3) | (go_at_call 78; refine (cread_any w.heap.size pc d' [] 0 _ C4.out).mono ?_; rintro e w8 ⟨A2, c2, rfl, hbt, hB⟩; have t4 := toStr_of hbt.rd c2; have C5 := Lib.hid (C4.out.below hB); have D6 := Lib.hid (below_of hB D5.out); rw [x4, x5]; rw [x5] at t4; (have t5 : (convert 38 9 (.slice A2 1 c2)).run Try.prog w8 = .ok (.string ⟨#[97]⟩) w8 := t4); have t6 := toStr_of (Bt7.out.rd.below hB) c1; rw [x3] at t6; (have t7 : (convert 38 9 (.slice A1 1 c1)).run Try.prog w8 = .ok (.string ⟨#[98]⟩) w8 := t6); clear t4 t6 C4 hbt hB) | (go_at_call 79; refine (cstate_any w.heap.size pc d' [] 1 _ C5.out).mono ?_; rintro e w9 ⟨rfl, rfl⟩; rw [x6]) | (go_at_call 66; refine (cpending_any w.heap.size pc d' [] _ C5.out).mono ?_; rintro e w6 ⟨rfl, rfl⟩))
  go_ret
  exact ⟨rfl, D6.out⟩
end Go.Proofs.Ytmloiifnadaaoaa
