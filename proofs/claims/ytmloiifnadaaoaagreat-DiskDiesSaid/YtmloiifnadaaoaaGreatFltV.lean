/- The walks of package fault and of its reference: Valid, At. -/
import Derived.Test.YtmloiifnadaaoaaGreatFltA
namespace Go.Proofs.YtmloiifnadaaoaaGreat
open Go.RowKit
set_option linter.unusedVariables false
set_option linter.unusedSimpArgs false

theorem aims_any (k : Int) (w : World) : Calls Tryz.prog 79 #[.int .i64 k] w fun e w' => e = .returned (.bool (decide (k = 3) || decide (k = 5))) ∧ w = w' := by
  by_cases h3 : k = 3
  · subst h3
    go_enter Tryz.func79, Tryz.ntmps79
    go_wp2
    go_ret
    exact ⟨rfl, rfl⟩
  · by_cases h5 : k = 5
    · subst h5
      go_enter Tryz.func79, Tryz.ntmps79
      go_wp2
      go_ret
      exact ⟨rfl, rfl⟩
    · have e : (decide (k = 3) || decide (k = 5)) = false := by simp [h3, h5]
      rw [e]
      have b3 : (k == 3) = false := by simpa using h3
      have b5 : (k == 5) = false := by simpa using h5
      clear e h3 h5
      go_enter Tryz.func79, Tryz.ntmps79
      go_wp2
      go_ret
      exact ⟨rfl, rfl⟩
theorem aims_yes (k : Int) (w : World) (h : k = 3 ∨ k = 5) : Calls Tryz.prog 79 #[.int .i64 k] w fun e w' => e = .returned (.bool true) ∧ w = w' := by
  refine (aims_any k w).mono ?_
  rintro e w' ⟨rfl, rfl⟩
  exact ⟨by simp [h], rfl⟩
theorem aims_no (k : Int) (w : World) (h : ¬ (k = 3 ∨ k = 5)) : Calls Tryz.prog 79 #[.int .i64 k] w fun e w' => e = .returned (.bool false) ∧ w = w' := by
  refine (aims_any k w).mono ?_
  rintro e w' ⟨rfl, rfl⟩
  exact ⟨by simp [not_or.1 h], rfl⟩
/-- A fault's cells, found. -/
theorem FltsRd.at_ {w wr : World} {A : Option Addr} {l : List Flt} (h : FltsRd w A l) (hb : Below w.heap.size w wr) {j : Nat} {f : Flt} (hf : l[j]? = some f) :
    ∃ g off, A = some ⟨g, off, none⟩ ∧ g < w.heap.size ∧ wr.cell? ⟨g, off + j * 3, none⟩ = some (.int .i64 f.at_) ∧ wr.cell? ⟨g, off + j * 3 + 1, none⟩ = some (.int .i64 f.kind) ∧ wr.cell? ⟨g, off + j * 3 + 2, none⟩ = some (.int .i64 f.to) := by
  rcases h with h1 | ⟨g, off, h1, h2, h3⟩
  · rw [h1] at hf; simp at hf
  · obtain ⟨k0, k1, k2⟩ := h3 j f hf
    exact ⟨g, off, h1, h2, cell_later hb k0, cell_later hb k1, cell_later hb k2⟩
theorem fltValid_bad {l : List Flt} {j : Nat} {f : Flt} (hf : l[j]? = some f) (h : f.ok (fltLast (l.take j)) = false) : fltValid l = false := by
  cases hv : fltValid l with
  | false => rfl
  | true =>
    have h1 := fltValid_take hv (j + 1)
    obtain ⟨hj, rfl⟩ := List.getElem?_eq_some_iff.1 hf
    rw [List.take_succ_eq_append_getElem hj, fltValid_snoc, h] at h1
    simp at h1
theorem fltValid_good {l : List Flt} {j : Nat} {f : Flt} (hf : l[j]? = some f) (hv : fltValid (l.take j) = true) (h : f.ok (fltLast (l.take j)) = true) : fltValid (l.take (j + 1)) = true ∧ fltLast (l.take (j + 1)) = f.at_ := by
  obtain ⟨hj, rfl⟩ := List.getElem?_eq_some_iff.1 hf
  rw [List.take_succ_eq_append_getElem hj, fltValid_snoc, fltLast_snoc, hv, h]
  exact ⟨rfl, rfl⟩
theorem Flt.ok_no {f : Flt} {last : Int} (h : ¬ (last < f.at_ ∧ 1 ≤ f.kind ∧ f.kind ≤ 7 ∧ 0 ≤ f.to ∧ (f.to = 0 ∨ f.kind = 3 ∨ f.kind = 5))) : f.ok last = false := by unfold Flt.ok; simp only [decide_eq_false_iff_not]; exact h
theorem Flt.ok_yes {f : Flt} {last : Int} (h : last < f.at_ ∧ 1 ≤ f.kind ∧ f.kind ≤ 7 ∧ 0 ≤ f.to ∧ (f.to = 0 ∨ f.kind = 3 ∨ f.kind = 5)) : f.ok last = true := by unfold Flt.ok; simp only [decide_eq_true_eq]; exact h

set_option maxHeartbeats 8000000 in
set_option maxRecDepth 1000000 in
theorem fvalid_any (A : Option Addr) (l : List Flt) (c : Nat) (w : World) (h : FltsRd w A l) (hl : l.length ≤ 140737488351232) :
    Calls Tryz.prog 48 #[.slice A l.length c] w fun e w' => e = .returned (.bool (fltValid l)) ∧ Below w.heap.size w w' := by
  have H := Lib.hid h
  clear h
  go_enter Tryz.func48, Tryz.ntmps48
  go_wp2
  go_loopw [3, 8] (fun la i wr => ∃ j : Nat, j ≤ l.length ∧ i = .int .i64 j ∧ la = .int .i64 (fltLast (l.take j)) ∧ fltValid (l.take j) = true ∧ Below w.heap.size w wr) (fun _ i _ => l.length - (intOf i).toNat)
  case atStart => exact ⟨0, Nat.zero_le _, rfl, rfl, rfl, Below.refl _ _⟩
  case round =>
    obtain ⟨j, hj, rfl, rfl, hv, hb⟩ := hrel
    by_cases hjn : j < l.length
    · have hf : l[j]? = some l[j] := List.getElem?_eq_getElem hjn
      generalize l[j] = f at *
      obtain ⟨g, off, rfl, hg, k0, k1, k2⟩ := H.out.at_ hb hf
      have hbad := Lib.hid (fun h => fltValid_bad hf h)
      have hgood := Lib.hid (fun h => fltValid_good hf hv h)
      generalize fltLast (l.take j) = last at *
      have hgw : g < wr.heap.size := by have := hb.size; omega
      obtain ⟨fa, fk, ft⟩ := f
      simp only at k0 k1 k2
      clear hf hv
      by_cases c1 : fa ≤ last
      · have hx := hbad.out (Flt.ok_no (by simp only; omega))
        have HX := Lib.hid hx
        clear hx
        go_wp2
        go_ret
        exact ⟨by rw [HX.out] <;> rfl, (by repeat (first | (with_reducible exact Below.refl _ _) | (with_reducible refine Below.drew ?_) | (with_reducible refine below_drw ?_ _) | (with_reducible refine below_alloc ?_ _) | (with_reducible refine below_set ?_ (by simp <;> omega) _) | (refine below_of (by assumption) ?_)))⟩
      by_cases c2 : fk < 1
      · have hx := hbad.out (Flt.ok_no (by simp only; omega))
        have HX := Lib.hid hx
        clear hx
        go_wp2
        go_ret
        exact ⟨by rw [HX.out] <;> rfl, (by repeat (first | (with_reducible exact Below.refl _ _) | (with_reducible refine Below.drew ?_) | (with_reducible refine below_drw ?_ _) | (with_reducible refine below_alloc ?_ _) | (with_reducible refine below_set ?_ (by simp <;> omega) _) | (refine below_of (by assumption) ?_)))⟩
      by_cases c3 : 7 < fk
      · have hx := hbad.out (Flt.ok_no (by simp only; omega))
        have HX := Lib.hid hx
        clear hx
        go_wp2
        go_ret
        exact ⟨by rw [HX.out] <;> rfl, (by repeat (first | (with_reducible exact Below.refl _ _) | (with_reducible refine Below.drew ?_) | (with_reducible refine below_drw ?_ _) | (with_reducible refine below_alloc ?_ _) | (with_reducible refine below_set ?_ (by simp <;> omega) _) | (refine below_of (by assumption) ?_)))⟩
      by_cases c4 : ft < 0
      · have hx := hbad.out (Flt.ok_no (by simp only; omega))
        have HX := Lib.hid hx
        clear hx
        go_wp2
        go_ret
        exact ⟨by rw [HX.out] <;> rfl, (by repeat (first | (with_reducible exact Below.refl _ _) | (with_reducible refine Below.drew ?_) | (with_reducible refine below_drw ?_ _) | (with_reducible refine below_alloc ?_ _) | (with_reducible refine below_set ?_ (by simp <;> omega) _) | (refine below_of (by assumption) ?_)))⟩
      by_cases c5 : ft = 0
      · have hx := hgood.out (Flt.ok_yes (by simp only; omega))
        have HX := Lib.hid hx
        subst c5
        clear hx
        go_wp2
        go_roundw
        case rel => exact ⟨j + 1, by omega, by go_num, by rw [HX.out.2], HX.out.1, (by repeat (first | (with_reducible exact Below.refl _ _) | (with_reducible refine Below.drew ?_) | (with_reducible refine below_drw ?_ _) | (with_reducible refine below_alloc ?_ _) | (with_reducible refine below_set ?_ (by simp <;> omega) _) | (refine below_of (by assumption) ?_)))⟩
        case measure => simp [intOf]; omega
      · have b5 : (ft != 0) = true := by simpa using c5
        by_cases c6 : fk = 3 ∨ fk = 5
        · have hx := hgood.out (Flt.ok_yes (by simp only; omega))
          have HX := Lib.hid hx
          clear hx c5
          go_wp2_with ((go_at_call 79; refine (aims_yes _ _ c6).mono ?_; rintro e w' ⟨rfl, rfl⟩))
          go_roundw
          case rel => exact ⟨j + 1, by omega, by go_num, by rw [HX.out.2], HX.out.1, (by repeat (first | (with_reducible exact Below.refl _ _) | (with_reducible refine Below.drew ?_) | (with_reducible refine below_drw ?_ _) | (with_reducible refine below_alloc ?_ _) | (with_reducible refine below_set ?_ (by simp <;> omega) _) | (refine below_of (by assumption) ?_)))⟩
          case measure => simp [intOf]; omega
        · have hx := hbad.out (Flt.ok_no (by simp only; omega))
          have HX := Lib.hid hx
          clear hx c5
          go_wp2_with ((go_at_call 79; refine (aims_no _ _ c6).mono ?_; rintro e w' ⟨rfl, rfl⟩))
          go_ret
          exact ⟨by rw [HX.out] <;> rfl, (by repeat (first | (with_reducible exact Below.refl _ _) | (with_reducible refine Below.drew ?_) | (with_reducible refine below_drw ?_ _) | (with_reducible refine below_alloc ?_ _) | (with_reducible refine below_set ?_ (by simp <;> omega) _) | (refine below_of (by assumption) ?_)))⟩
    · rw [List.take_of_length_le (by omega)] at hv
      have HV := Lib.hid hv
      clear hv
      go_wp2
      go_ret
      exact ⟨by rw [HV.out] <;> rfl, hb⟩

theorem fltAt_none {l : List Flt} {n : Int} (h : ∀ f ∈ l, f.at_ ≠ n) : fltAt l n = ⟨0, 0, 0⟩ := by
  unfold fltAt
  rw [List.find?_eq_none.2 (by intro f hf; simpa using h f hf)]
  rfl
theorem fltAt_some {l : List Flt} {n : Int} {j : Nat} {f : Flt} (hf : l[j]? = some f) (h : f.at_ = n) (hp : ∀ g ∈ l.take j, g.at_ ≠ n) : fltAt l n = f := by
  obtain ⟨hj, rfl⟩ := List.getElem?_eq_some_iff.1 hf
  unfold fltAt
  have e : l = l.take j ++ l[j] :: l.drop (j + 1) := by rw [List.getElem_cons_drop, List.take_append_drop]
  have : l.find? (fun f => decide (f.at_ = n)) = some l[j] := by
    rw [List.find?_eq_some_iff_getElem]
    refine ⟨by simpa using h, j, hj, rfl, fun i hi => ?_⟩
    have := hp l[i] (List.mem_take_iff_getElem.2 ⟨i, by omega, rfl⟩)
    simpa using this
  rw [this]
  rfl

theorem box3 {w wr : World} {u0 u1 u2 : Value} {T : TypeId} (hb : Below (w.alloc (.cells #[u0, u1, u2] T)).heap.size (w.alloc (.cells #[u0, u1, u2] T)) wr) :
    wr.cell? ⟨w.heap.size, 0, none⟩ = some u0 ∧ wr.cell? ⟨w.heap.size, 1, none⟩ = some u1 ∧ wr.cell? ⟨w.heap.size, 2, none⟩ = some u2 ∧ wr.frozen? ⟨w.heap.size, 0, none⟩ = false ∧ wr.frozen? ⟨w.heap.size, 1, none⟩ = false ∧ wr.frozen? ⟨w.heap.size, 2, none⟩ = false := by
  have t0 : (w.alloc (.cells #[u0, u1, u2] T)).heap[w.heap.size]? = _ := heap_alloc_new _ _
  have x0 : wr.heap[w.heap.size]? = _ := (hb.block w.heap.size (by simp)).trans t0
  exact ⟨by rw [cell_of_row _ _ _ _ _ _ x0]; rfl, by rw [cell_of_row _ _ _ _ _ _ x0]; rfl, by rw [cell_of_row _ _ _ _ _ _ x0]; rfl, by simp [World.frozen?, x0], by simp [World.frozen?, x0], by simp [World.frozen?, x0]⟩
/-- What At returns. -/
def AtIs (f : Flt) (w : World) (e : Ending) (w' : World) : Prop := ∃ b, e = .returned (.tuple #[.agg #[.int .i64 f.at_, .int .i64 f.kind, .int .i64 f.to], .bool b]) ∧ Below w.heap.size w w'

set_option maxHeartbeats 4000000 in
set_option maxRecDepth 1000000 in
theorem fat_any (A : Option Addr) (l : List Flt) (c : Nat) (n : Int) (w : World) (h : FltsRd w A l) (hl : l.length ≤ 140737488351232) :
    Calls Tryz.prog 81 #[.slice A l.length c, .int .i64 n] w (AtIs (fltAt l n) w) := by
  have hb0 : Below w.heap.size w (w.alloc (.cells #[.int .i64 0, .int .i64 0, .int .i64 0] 64)) := (Below.refl _ _).alloc (Nat.le_refl _) _
  have H := Lib.hid h
  have HB := Lib.hid hb0
  clear h hb0
  go_enter Tryz.func81, Tryz.ntmps81
  go_wp2
  go_loopw [10] (fun i wr => ∃ j : Nat, j ≤ l.length ∧ i = .int .i64 j ∧ (∀ f ∈ l.take j, f.at_ ≠ n) ∧ Below (w.alloc (.cells #[.int .i64 0, .int .i64 0, .int .i64 0] 64)).heap.size (w.alloc (.cells #[.int .i64 0, .int .i64 0, .int .i64 0] 64)) wr) (fun i _ => l.length - (intOf i).toNat)
  case atStart => exact ⟨0, Nat.zero_le _, rfl, by simp, Below.refl _ _⟩
  case round =>
    obtain ⟨j, hj, rfl, hp, hb⟩ := hrel
    have HW := Lib.hid (below_of hb HB.out)
    obtain ⟨z0, z1, z2, y0, y1, y2⟩ := box3 hb
    have hzw : w.heap.size < wr.heap.size := by have := hb.size; simp at this; omega
    have HBr := Lib.hid hb
    have Hp := Lib.hid hp
    clear hp
    by_cases hjn : j < l.length
    · have hf : l[j]? = some l[j] := List.getElem?_eq_getElem hjn
      have htk : l.take (j + 1) = l.take j ++ [l[j]] := List.take_succ_eq_append_getElem hjn
      generalize l[j] = f at *
      obtain ⟨g, off, rfl, hg, k0, k1, k2⟩ := H.out.at_ HW.out hf
      have hgw : g < wr.heap.size := by omega
      have hgn : ¬ g = w.heap.size := by omega
      by_cases hfn : f.at_ = n
      · have hx := fltAt_some hf hfn Hp.out
        have HX := Lib.hid hx
        rw [hfn] at k0
        have HN := Lib.hid hfn
        clear hf htk hx hfn hb
        go_wp2
        try simp only [Exit.inBlock, Exit.then]
        refine bodyPost_ret (v := .tuple #[.agg #[.int .i64 n, .int .i64 f.kind, .int .i64 f.to], .bool true]) (by simp [results, Tryz.results81, go_sem, z0, z1, z2, hzw, Nat.ne_of_lt hzw]) rfl ?_
        refine ⟨_, by rw [HX.out, HN.out], ?_⟩
        have h9 := HW.out
        exact (by repeat (first | (with_reducible exact Below.refl _ _) | (with_reducible refine Below.drew ?_) | (with_reducible refine below_drw ?_ _) | (with_reducible refine below_alloc ?_ _) | (with_reducible refine below_set ?_ (by simp <;> omega) _) | (refine below_of (by assumption) ?_)))
      · have bn : (f.at_ == n) = false := by simpa using hfn
        have Htk := Lib.hid htk
        have Hn := Lib.hid hfn
        clear hf htk hfn hb
        go_wp2
        go_roundw
        case rel =>
          refine ⟨j + 1, by omega, by go_num, ?_, (by repeat (first | (with_reducible exact Below.refl _ _) | (with_reducible refine Below.drew ?_) | (with_reducible refine below_drw ?_ _) | (with_reducible refine below_alloc ?_ _) | (with_reducible refine below_set ?_ (by simp <;> omega) _) | (refine below_of (by assumption) ?_)))⟩
          rw [Htk.out]
          intro x hx
          rcases List.mem_append.1 hx with h1 | h1
          · exact Hp.out x h1
          · simp at h1; subst h1; exact Hn.out
        case measure => simp [intOf]; omega
    · have hx := fltAt_none (l := l) (n := n) (by have := Hp.out; rw [List.take_of_length_le (by omega)] at this; exact this)
      have HX := Lib.hid hx
      clear hx hb
      go_wp2
      try simp only [Exit.inBlock, Exit.then]
      refine bodyPost_ret (v := .tuple #[.agg #[.int .i64 0, .int .i64 0, .int .i64 0], .bool false]) (by simp [results, Tryz.results81, go_sem, z0, z1, z2, hzw, Nat.ne_of_lt hzw]) rfl ?_
      refine ⟨_, by rw [HX.out], ?_⟩
      have h9 := HW.out
      exact (by repeat (first | (with_reducible exact Below.refl _ _) | (with_reducible refine Below.drew ?_) | (with_reducible refine below_drw ?_ _) | (with_reducible refine below_alloc ?_ _) | (with_reducible refine below_set ?_ (by simp <;> omega) _) | (refine below_of (by assumption) ?_)))
end Go.Proofs.YtmloiifnadaaoaaGreat
/- The walk of the reference's At for faults. -/
namespace Go.Proofs.YtmloiifnadaaoaaGreat
open Go.RowKit
set_option linter.unusedVariables false
set_option linter.unusedSimpArgs false

set_option maxHeartbeats 4000000 in
set_option maxRecDepth 1000000 in
theorem rfat_any (A : Option Addr) (l : List Flt) (c : Nat) (n : Int) (w : World) (h : FltsRd w A l) (hl : l.length ≤ 140737488351232) :
    Calls Tryz.prog 90 #[.slice A l.length c, .int .i64 n] w (AtIs (fltAt l n) w) := by
  have hb0 : Below w.heap.size w (w.alloc (.cells #[.int .i64 0, .int .i64 0, .int .i64 0] 64)) := (Below.refl _ _).alloc (Nat.le_refl _) _
  have H := Lib.hid h
  have HB := Lib.hid hb0
  clear h hb0
  go_enter Tryz.func90, Tryz.ntmps90
  go_wp2
  go_loopw [6] (fun i wr => ∃ j : Nat, j ≤ l.length ∧ i = .int .i64 j ∧ (∀ f ∈ l.take j, f.at_ ≠ n) ∧ Below (w.alloc (.cells #[.int .i64 0, .int .i64 0, .int .i64 0] 64)).heap.size (w.alloc (.cells #[.int .i64 0, .int .i64 0, .int .i64 0] 64)) wr) (fun i _ => l.length - (intOf i).toNat)
  case atStart => exact ⟨0, Nat.zero_le _, rfl, by simp, Below.refl _ _⟩
  case round =>
    obtain ⟨j, hj, rfl, hp, hb⟩ := hrel
    have HW := Lib.hid (below_of hb HB.out)
    obtain ⟨z0, z1, z2, y0, y1, y2⟩ := box3 hb
    have hzw : w.heap.size < wr.heap.size := by have := hb.size; simp at this; omega
    have HBr := Lib.hid hb
    have Hp := Lib.hid hp
    clear hp
    by_cases hjn : j < l.length
    · have hf : l[j]? = some l[j] := List.getElem?_eq_getElem hjn
      have htk : l.take (j + 1) = l.take j ++ [l[j]] := List.take_succ_eq_append_getElem hjn
      generalize l[j] = f at *
      obtain ⟨g, off, rfl, hg, k0, k1, k2⟩ := H.out.at_ HW.out hf
      have hgw : g < wr.heap.size := by omega
      have hgn : ¬ g = w.heap.size := by omega
      by_cases hfn : f.at_ = n
      · have hx := fltAt_some hf hfn Hp.out
        have HX := Lib.hid hx
        rw [hfn] at k0
        have HN := Lib.hid hfn
        clear hf htk hx hfn hb
        go_wp2
        try simp only [Exit.inBlock, Exit.then]
        refine bodyPost_ret (v := .tuple #[.agg #[.int .i64 n, .int .i64 f.kind, .int .i64 f.to], .bool true]) (by simp [results, Tryz.results90, go_sem, z0, z1, z2, hzw, Nat.ne_of_lt hzw]) rfl ?_
        refine ⟨_, by rw [HX.out, HN.out], ?_⟩
        have h9 := HW.out
        exact (by repeat (first | (with_reducible exact Below.refl _ _) | (with_reducible refine Below.drew ?_) | (with_reducible refine below_drw ?_ _) | (with_reducible refine below_alloc ?_ _) | (with_reducible refine below_set ?_ (by simp <;> omega) _) | (refine below_of (by assumption) ?_)))
      · have bn : (f.at_ == n) = false := by simpa using hfn
        have Htk := Lib.hid htk
        have Hn := Lib.hid hfn
        clear hf htk hfn hb
        go_wp2
        go_roundw
        case rel =>
          refine ⟨j + 1, by omega, by go_num, ?_, (by repeat (first | (with_reducible exact Below.refl _ _) | (with_reducible refine Below.drew ?_) | (with_reducible refine below_drw ?_ _) | (with_reducible refine below_alloc ?_ _) | (with_reducible refine below_set ?_ (by simp <;> omega) _) | (refine below_of (by assumption) ?_)))⟩
          rw [Htk.out]
          intro x hx
          rcases List.mem_append.1 hx with h1 | h1
          · exact Hp.out x h1
          · simp at h1; subst h1; exact Hn.out
        case measure => simp [intOf]; omega
    · have hx := fltAt_none (l := l) (n := n) (by have := Hp.out; rw [List.take_of_length_le (by omega)] at this; exact this)
      have HX := Lib.hid hx
      clear hx hb
      go_wp2
      try simp only [Exit.inBlock, Exit.then]
      refine bodyPost_ret (v := .tuple #[.agg #[.int .i64 0, .int .i64 0, .int .i64 0], .bool false]) (by simp [results, Tryz.results90, go_sem, z0, z1, z2, hzw, Nat.ne_of_lt hzw]) rfl ?_
      refine ⟨_, by rw [HX.out], ?_⟩
      have h9 := HW.out
      exact (by repeat (first | (with_reducible exact Below.refl _ _) | (with_reducible refine Below.drew ?_) | (with_reducible refine below_drw ?_ _) | (with_reducible refine below_alloc ?_ _) | (with_reducible refine below_set ?_ (by simp <;> omega) _) | (refine below_of (by assumption) ?_)))
end Go.Proofs.YtmloiifnadaaoaaGreat
