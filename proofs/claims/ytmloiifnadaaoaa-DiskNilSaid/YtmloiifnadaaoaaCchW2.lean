/- The walks of package cache: Clone, New, do, Write, Erase. -/
import Derived.Test.YtmloiifnadaaoaaCchW1
namespace Go.Proofs.Ytmloiifnadaaoaa
open Go.RowKit
set_option linter.unusedVariables false
set_option linter.unusedSimpArgs false

theorem head_set {w : World} {p : Nat} {c : Array Value} {T : TypeId} {fr : Nat × Nat} (h : w.heap[p]? = some (.cells c T fr)) (i : Nat) (v : Value) : (w.setCell ⟨p, i, none⟩ v).heap[p]? = some (.cells (c.setIfInBounds i v) T fr) := by
  unfold World.setCell
  simp [Array.getElem?_modify, h]
theorem IsCache.le {w : World} {N pc : Nat} {d : Med} {l : List Opn} (h : IsCache w N pc d l) : N ≤ w.heap.size := by
  obtain ⟨_, _, _, _, _, _, _, _, h⟩ := h
  have := h.hasC.lt
  have := h.le
  omega

theorem owns_slice {w : World} {base e size n : Nat} {v : Value} {xs : List Value} (h : w.ownsRow base e size v n xs) : ∃ A c, v = .slice A n c := by
  rcases h.2 with ⟨rfl, hn⟩ | ⟨g, cap, cur, rfl, _⟩
  · exact ⟨none, 0, by rw [hn]⟩
  · exact ⟨_, _, rfl⟩

/-- What leaves a new cache. -/
def NewCache (d : Med) (l : List Opn) (w : World) (e : Ending) (w' : World) : Prop :=
  Below w.heap.size w w' ∧ ∃ pc, e = .returned (.pointer (some ⟨pc, 0, none⟩)) ∧ IsCache w' w.heap.size pc d l

set_option maxHeartbeats 2000000 in
set_option maxRecDepth 1000000 in
theorem cclone_any (N pc : Nat) (d : Med) (l : List Opn) (w : World) (h : IsCache w N pc d l) (hlen : l.length ≤ 1000000) :
    Calls Try.prog 76 #[.pointer (some ⟨pc, 0, none⟩)] w (NewCache d l w) := by
  obtain ⟨p1, q1, n1, p2, q2, n2, v, xs, h⟩ := h
  have c0 := h.c0
  have c1 := h.c1
  have c2 := h.c2
  have hpl := h.hasC.lt
  obtain ⟨A, c, rfl, hcr, hnil⟩ := h.form
  have Hnil := Lib.hid hnil
  have Hx := Lib.hid (show xs.length = l.length * 1 from h.row.1)
  have H1 := Lib.hid (h.ops.one h.row.1)
  have C := Lib.hid (h.keepA (Fr.ofBelow (Below.refl _ w).drew _) avoid_none)
  have Hc := Lib.hid (hcr.below (Below.refl _ w).drew)
  clear h hcr hnil
  go_enter Try.func76, Try.ntmps76
  go_wp2_with fail
  go_region_held3 (fun W_ => (∀ b_ o_, b_ < (w).heap.size → W_.cell? ⟨b_, o_, none⟩ = (w).cell? ⟨b_, o_, none⟩) ∧ (∀ b_ o_, b_ < (w).heap.size → W_.frozen? ⟨b_, o_, none⟩ = (w).frozen? ⟨b_, o_, none⟩) ∧ (∀ k_, k_ < (w).heap.size → k_ < W_.heap.size) ∧ Below (w).heap.size (w) W_) (first | exact held_start _ | assumption | exact held_keep (by assumption) (by assumption) | exact held_keep (by assumption) ((Below.refl _ _).alloc (Nat.le_refl _) _) | exact held_of (by assumption)) (first | (go_at_call 56; (with_reducible refine (mclone_any p1 q1 n1 d _ C.out.dur).mono ?_); rintro e w1 ⟨hb1, p3, q3, n3, rfl, hp3, hq3, hM3⟩; have C1 := Lib.hid (C.out.keepA (Fr.ofBelow hb1 _) avoid_none); have Hc1 := Lib.hid (Hc.out.below hb1); have M3 := Lib.hid hM3; clear hM3) | (go_at_call 56; (with_reducible refine (mclone_any p2 q2 n2 (d.ops l) _ C1.out.con).mono ?_); rintro e w2 ⟨hb2, p4, q4, n4, rfl, hp4, hq4, hM4⟩; have C2 := Lib.hid (C1.out.keepA (Fr.ofBelow hb2 _) avoid_none); have Hc2 := Lib.hid (Hc1.out.below hb2); have M4 := Lib.hid hM4; clear hM4) | (go_at_call 121; refine (clone_opers A l.length c xs _ Hx.out Hc2.out H1.out (by omega) Hnil.out).mono ?_; rintro e w3 ⟨v3, rfl, ho3, hb3, _⟩; obtain ⟨A3, c3, rfl⟩ := owns_slice ho3; have C3 := Lib.hid (C2.out.keepA (Fr.ofBelow hb3 _) avoid_none); have Ho3 := Lib.hid ho3; have M4' := Lib.hid (M4.out.below hb3); have M3' := Lib.hid (M3.out.below (below_of hb3 hb2)); clear ho3))
  all_goals go_wp2
  all_goals go_ret
  all_goals (have s1 := hb1.size; have s2 := hb2.size; have s3 := hb3.size; have t1 := M3.out.hasQ.lt; simp at s1 s2 s3 hp3 hq3 hp4 hq4)
  all_goals (have hbn : Below w3.heap.size w3 (w3.alloc (.cells #[.pointer (some ⟨p3, 0, none⟩), .pointer (some ⟨p4, 0, none⟩), .slice A3 l.length c3] 146)) := (Below.refl _ _).alloc (Nat.le_refl _) _)
  all_goals exact ⟨(by repeat (first | (with_reducible exact Below.refl _ _) | (with_reducible refine Below.drew ?_) | (with_reducible refine below_drw ?_ _) | (with_reducible refine below_alloc ?_ _) | (with_reducible refine below_set ?_ (by simp <;> omega) _) | (refine below_of (by assumption) ?_))), _, rfl, p3, q3, n3, p4, q4, n4, _, xs, heap_alloc_new _ _, M3'.out.below hbn, M4'.out.below hbn, by omega, owns_mono (by omega) (Ho3.out.alloc _), C3.out.ops.keepA (Fr.ofBelow hbn _) avoid_none, by omega⟩

set_option maxHeartbeats 2000000 in
set_option maxRecDepth 1000000 in
theorem cnew_any (p q n : Nat) (d : Med) (w : World) (h : IsMed w p q n d) :
    Calls Try.prog 62 #[.pointer (some ⟨p, 0, none⟩)] w (NewCache d [] w) := by
  have M := Lib.hid h
  clear h
  go_enter Try.func62, Try.ntmps62
  go_wp2_with (first | (go_at_call 56; refine (mclone_any p q n d _ M.out).mono ?_; rintro e w1 ⟨hb1, p3, q3, n3, rfl, hp3, hq3, hM3⟩; have M1 := Lib.hid (M.out.below hb1); have M3 := Lib.hid hM3; clear hM3 M) | (go_at_call 56; refine (mclone_any p q n d _ M1.out).mono ?_; rintro e w2 ⟨hb2, p4, q4, n4, rfl, hp4, hq4, hM4⟩; have M3' := Lib.hid (M3.out.below hb2); have M4 := Lib.hid hM4; clear hM4))
  go_ret
  have s1 := hb1.size
  have s2 := hb2.size
  have t1 := M3.out.hasQ.lt
  have hbn : Below w2.heap.size w2 (w2.alloc (.cells #[.pointer (some ⟨p3, 0, none⟩), .pointer (some ⟨p4, 0, none⟩), .slice none 0 0] 146)) := (Below.refl _ _).alloc (Nat.le_refl _) _
  have hbw : Below w.heap.size w w2 := below_of hb2 hb1
  exact ⟨below_alloc hbw _, _, rfl, p3, q3, n3, p4, q4, n4, _, [], heap_alloc_new _ _, M3'.out.below hbn, M4.out.below hbn, by omega, World.ownsRow_nil _ _ _ _, (fun i o ho => by simp at ho), by omega⟩
end Go.Proofs.Ytmloiifnadaaoaa
