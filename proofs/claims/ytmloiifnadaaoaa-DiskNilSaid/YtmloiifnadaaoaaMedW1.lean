/- The walks of package media: Clone of bytes, has, State, Read. -/
import Derived.Test.YtmloiifnadaaoaaClone
namespace Go.Proofs.Ytmloiifnadaaoaa
open Go.RowKit
set_option linter.unusedVariables false
set_option linter.unusedSimpArgs false

def byteVals (l : List UInt8) : List Value := l.map fun x : UInt8 => Value.int .u8 (x.toNat : Int)
theorem byteVals_len (l : List UInt8) : (byteVals l).length = l.length := by simp [byteVals]
theorem byteVals_one (l : List UInt8) : ∀ u ∈ byteVals l, u.oneCell' = true := by
  intro u hu
  obtain ⟨x, _, rfl⟩ := List.mem_map.1 hu
  rfl
theorem byteVals_get {l : List UInt8} {i : Nat} {x : UInt8} (h : l[i]? = some x) : (byteVals l)[i]? = some (.int .u8 (x.toNat : Int)) := by
  unfold byteVals; rw [List.getElem?_map, h]; rfl
theorem BytesRd.cells {w : World} {A : Option Addr} {l : List UInt8} (h : BytesRd w A l) : CellsRd w A (byteVals l) := by
  intro a ha j u hu
  unfold byteVals at hu
  rw [List.getElem?_map] at hu
  cases hx : l[j]? with
  | none => rw [hx] at hu; cases hu
  | some x =>
    rw [hx] at hu
    obtain rfl := Option.some.inj hu
    rcases h with rfl | ⟨g, off, h1, h2⟩
    · simp at hx
    · rw [ha] at h1
      obtain rfl := Option.some.inj h1
      rw [Addr.add_lit]
      exact h2 j x hx
theorem BytesRd.nil {w : World} {A : Option Addr} {l : List UInt8} (h : BytesRd w A l) : A = none → l.length = 0 := by
  rintro rfl
  rcases h with rfl | ⟨g, off, h1, _⟩
  · rfl
  · cases h1
theorem bytesT_of_row {w : World} {base : Nat} {v : Value} {l : List UInt8} (h : w.ownsRow base 5 1 v l.length (byteVals l)) : ∃ A c, v = .slice A l.length c ∧ BytesT w A l := by
  rcases h.2 with ⟨rfl, hn⟩ | ⟨g, cap, cur, rfl, _, hg, _, _, _, _⟩
  · exact ⟨none, 0, by rw [hn], .inl (List.eq_nil_of_length_eq_zero hn)⟩
  · refine ⟨_, _, rfl, .inr ⟨g, 0, rfl, ⟨_, _, hg⟩, fun i x hx => ?_⟩⟩
    have := h.cells (g := g) rfl i _ (byteVals_get hx)
    rw [Addr.add_lit] at this
    exact this

/-- slices.Clone of bytes. -/
theorem cloneBytes_any (A : Option Addr) (l : List UInt8) (c : Nat) (w : World) (h : BytesRd w A l) (hl : l.length ≤ 140737488351232) :
    Calls Try.prog 112 #[.slice A l.length c] w fun e w' => ∃ A' c', e = .returned (.slice A' l.length c') ∧ BytesT w' A' l ∧ Below w.heap.size w w' := by
  refine (clone_bytes A l.length c (byteVals l) w (by rw [byteVals_len]; omega) h.cells (byteVals_one l) (by omega) h.nil).mono ?_
  rintro e w' ⟨v, rfl, ho, hb, _⟩
  obtain ⟨A', c', rfl, ht⟩ := bytesT_of_row ho
  exact ⟨A', c', rfl, ht, hb⟩

set_option maxHeartbeats 1000000 in
theorem has_any (p q cap : Nat) (m : Med) (a : Int) (w : World) (h : IsMed w p q cap m) :
    Calls Try.prog 111 #[.pointer (some ⟨p, 0, none⟩), .int .i64 a] w fun e w' => e = .returned (.bool (m.has a)) ∧ w = w' := by
  have c5 := h.c5
  cases hh : m.has a with
  | false =>
    have h0 := Med.has_no.1 hh
    go_enter Try.func111, Try.ntmps111
    go_wp2
    all_goals go_ret
    all_goals exact ⟨ret_bool (by simp; try omega), rfl⟩
  | true =>
    obtain ⟨h0, h1⟩ := Med.has_iff.1 hh
    go_enter Try.func111, Try.ntmps111
    go_wp2
    go_ret
    exact ⟨ret_bool rfl, rfl⟩
theorem has_nil (a : Int) (w : World) :
    Calls Try.prog 111 #[.pointer none, .int .i64 a] w fun e w' => e = .returned (.bool false) ∧ w = w' := by
  go_enter Try.func111, Try.ntmps111
  go_wp2
  go_ret
  exact ⟨rfl, rfl⟩

theorem Med.state_no {m : Med} {a : Int} (h : m.has a = false) : m.state a = 0 := by unfold Med.state; rw [h]; rfl
theorem Med.state_yes {m : Med} {a : Int} (h : m.has a = true) : m.state a = (m.sec a).st := by unfold Med.state; rw [h]; rfl

set_option maxHeartbeats 1000000 in
theorem state_any (p q cap : Nat) (m : Med) (a : Int) (w : World) (h : IsMed w p q cap m) :
    Calls Try.prog 52 #[.pointer (some ⟨p, 0, none⟩), .int .i64 a] w fun e w' => e = .returned (.int .i64 (m.state a)) ∧ w = w' := by
  have c5 := h.c5
  cases hh : m.has a with
  | false =>
    rw [Med.state_no hh]
    go_enter Try.func52, Try.ntmps52
    go_wp2_with ((go_at_call 111; refine (has_any p q cap m a _ h).mono ?_; rintro e w' ⟨rfl, rfl⟩))
    go_ret
    exact ⟨rfl, rfl⟩
  | true =>
    rw [Med.state_yes hh]
    obtain ⟨h0, h1⟩ := Med.has_iff.1 hh
    obtain ⟨k, rfl⟩ := Int.eq_ofNat_of_zero_le h0
    have hk : k < m.l.length := by omega
    obtain ⟨A, c, s0, s1, _, _⟩ := h.sec hk
    go_enter Try.func52, Try.ntmps52
    go_wp2_with ((go_at_call 111; refine (has_any p q cap m _ _ h).mono ?_; rintro e w' ⟨rfl, rfl⟩))
    go_ret
    exact ⟨rfl, rfl⟩
theorem state_nil (a : Int) (w : World) : Calls Try.prog 52 #[.pointer none, .int .i64 a] w fun e w' => e = .returned (.int .i64 0) ∧ w = w' := by
  go_enter Try.func52, Try.ntmps52
  go_wp2_with ((go_at_call 111; refine (has_nil _ _).mono ?_; rintro e w' ⟨rfl, rfl⟩))
  go_ret
  exact ⟨rfl, rfl⟩

/-- A read's results. -/
def ReadIs (m : Med) (a : Int) (w : World) (e : Ending) (w' : World) : Prop :=
  ∃ A c, e = .returned (.tuple #[.slice A (m.readB a).length c, .int .i64 (m.readE a)]) ∧ BytesT w' A (m.readB a) ∧ Below w.heap.size w w'

theorem Med.read_no {m : Med} {a : Int} (h : m.has a = false) : m.readE a = 2 ∧ m.readB a = [] := by
  have : m.readE a = 2 := by unfold Med.readE; rw [if_pos h]
  exact ⟨this, by unfold Med.readB; rw [if_neg (by rw [this]; decide)]⟩
theorem Med.read_bad {m : Med} {a : Int} (h : m.has a = true) (hs : (m.sec a).st ≠ 1) : m.readE a = 15 ∧ m.readB a = [] := by
  have : m.readE a = 15 := by unfold Med.readE; rw [if_neg (by rw [h]; decide), if_pos hs]
  exact ⟨this, by unfold Med.readB; rw [if_neg (by rw [this]; decide)]⟩
theorem Med.read_ok {m : Med} {a : Int} (h : m.has a = true) (hs : (m.sec a).st = 1) : m.readE a = 0 ∧ m.readB a = (m.sec a).bs := by
  have : m.readE a = 0 := by unfold Med.readE; rw [if_neg (by rw [h]; decide), if_neg (by simp [hs])]
  exact ⟨this, by unfold Med.readB; rw [if_pos this]⟩

set_option maxHeartbeats 1000000 in
theorem read_any (p q cap : Nat) (m : Med) (a : Int) (w : World) (h : IsMed w p q cap m) :
    Calls Try.prog 48 #[.pointer (some ⟨p, 0, none⟩), .int .i64 a] w (ReadIs m a w) := by
  have c5 := h.c5
  cases hh : m.has a with
  | false =>
    obtain ⟨e1, e2⟩ := Med.read_no hh
    have H1 := Lib.hid e1
    have H2 := Lib.hid e2
    clear e1 e2
    go_enter Try.func48, Try.ntmps48
    go_wp2_with ((go_at_call 111; refine (has_any p q cap m a _ h).mono ?_; rintro e w' ⟨rfl, rfl⟩))
    go_ret2
    exact ⟨none, 0, by rw [H1.out, H2.out]; rfl, .inl H2.out, (by repeat (first | (with_reducible exact Below.refl _ _) | (with_reducible refine Below.drew ?_) | (with_reducible refine below_drw ?_ _) | (with_reducible refine below_alloc ?_ _) | (with_reducible refine below_set ?_ (by simp <;> omega) _) | (refine below_of (by assumption) ?_)))⟩
  | true =>
    obtain ⟨h0, h1⟩ := Med.has_iff.1 hh
    obtain ⟨k, rfl⟩ := Int.eq_ofNat_of_zero_le h0
    have hk : k < m.l.length := by omega
    obtain ⟨A, c, s0, s1, hbt, h64⟩ := h.sec hk
    by_cases hst : (m.sec k).st = 1
    · obtain ⟨e1, e2⟩ := Med.read_ok hh hst
      have H1 := Lib.hid e1
      have H2 := Lib.hid e2
      have hst1 : ((m.sec k).st != 1) = false := by simp [hst]
      clear e1 e2 hst
      go_enter Try.func48, Try.ntmps48
      go_wp2_with (first | ((go_at_call 111; refine (has_any p q cap m _ _ h).mono ?_; rintro e w' ⟨rfl, rfl⟩)) | (go_at_call 112; refine (cloneBytes_any _ (m.sec k).bs _ _ hbt.rd (by omega)).mono ?_; rintro e w' ⟨A', c', rfl, hbt', hb⟩))
      go_ret2
      exact ⟨A', c', by rw [H1.out, H2.out]; rfl, by rw [H2.out]; exact hbt', hb⟩
    · obtain ⟨e1, e2⟩ := Med.read_bad hh hst
      have H1 := Lib.hid e1
      have H2 := Lib.hid e2
      have hst1 : ((m.sec k).st != 1) = true := by simp [hst]
      clear e1 e2 hst
      go_enter Try.func48, Try.ntmps48
      go_wp2_with ((go_at_call 111; refine (has_any p q cap m _ _ h).mono ?_; rintro e w' ⟨rfl, rfl⟩))
      go_ret2
      exact ⟨none, 0, by rw [H1.out, H2.out]; rfl, .inl H2.out, (by repeat (first | (with_reducible exact Below.refl _ _) | (with_reducible refine Below.drew ?_) | (with_reducible refine below_drw ?_ _) | (with_reducible refine below_alloc ?_ _) | (with_reducible refine below_set ?_ (by simp <;> omega) _) | (refine below_of (by assumption) ?_)))⟩
theorem read_nil (a : Int) (w : World) : Calls Try.prog 48 #[.pointer none, .int .i64 a] w fun e w' => e = .returned (.tuple #[.slice none 0 0, .int .i64 8]) ∧ w = w' := by
  go_enter Try.func48, Try.ntmps48
  go_wp2
  go_ret2
  exact ⟨rfl, rfl⟩
end Go.Proofs.Ytmloiifnadaaoaa
