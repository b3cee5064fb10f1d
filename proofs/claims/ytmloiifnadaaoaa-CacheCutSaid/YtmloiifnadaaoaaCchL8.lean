/- The law CacheCut. -/
import Derived.Test.YtmloiifnadaaoaaCchL6
namespace Go.Proofs.Ytmloiifnadaaoaa
open Go.RowKit
set_option linter.unusedVariables false
set_option linter.unusedSimpArgs false

def puts (d : Med) (l : List Opn) (ks : List Stp) : List Opn := ks.foldl (fun l s => push d l s.op) l
theorem puts_snoc (d : Med) (l : List Opn) (ks : List Stp) (s : Stp) : puts d l (ks ++ [s]) = push d (puts d l ks) s.op := by unfold puts; rw [List.foldl_append]; rfl
theorem puts_len (d : Med) (l : List Opn) (ks : List Stp) : (puts d l ks).length ≤ l.length + ks.length := by
  unfold puts
  induction ks generalizing l with
  | nil => simp
  | cons s ks ih =>
    rw [List.foldl_cons]
    have h1 := ih (push d l s.op)
    have h2 := push_len d l s.op
    simp only [List.length_cons]
    omega
theorem puts_short (d : Med) (l : List Opn) (ks : List Stp) {n : Nat} (hl : ∀ o ∈ l, o.bs.length ≤ n) (hk : ∀ s ∈ ks, s.op.bs.length ≤ n) : ∀ o ∈ puts d l ks, o.bs.length ≤ n := by
  unfold puts
  induction ks generalizing l with
  | nil => exact hl
  | cons s ks ih =>
    rw [List.foldl_cons]
    refine ih _ ?_ (fun x hx => hk x (List.mem_cons_of_mem _ hx))
    intro o ho
    unfold push at ho
    split at ho
    · rcases List.mem_append.1 ho with h1 | h1
      · exact hl o h1
      · simp at h1; subst h1; exact hk s (List.mem_cons_self ..)
    · exact hl o ho
/-- The cells of a list of operations, their bytes below block B. -/
def OpXB (w : World) (B : Nat) (xs : List Value) (l : List Opn) : Prop :=
  ∀ (i : Nat) (o : Opn), l[i]? = some o → ∃ A c, xs[i * 3]? = some (.bool o.er) ∧ xs[i * 3 + 1]? = some (.int .i64 o.at_) ∧ xs[i * 3 + 2]? = some (.slice A o.bs.length c) ∧ BytesB w B A o.bs
theorem OpXB.below {w w' : World} {B : Nat} {xs : List Value} {l : List Opn} (h : OpXB w B xs l) (hb : Below B w w') : OpXB w' B xs l := fun i o ho => by
  obtain ⟨A, c, h1, h2, h3, h4⟩ := h i o ho
  exact ⟨A, c, h1, h2, h3, h4.below hb⟩
theorem OpXB.snoc {w : World} {B : Nat} {xs : List Value} {l : List Opn} (h : OpXB w B xs l) (hx : xs.length = l.length * 3) {o : Opn} {A : Option Addr} {c : Nat} (hb : BytesB w B A o.bs) : OpXB w B (xs ++ [.bool o.er, .int .i64 o.at_, .slice A o.bs.length c]) (l ++ [o]) := by
  intro i y hy
  have hlt := (List.getElem?_eq_some_iff.1 hy).1
  simp at hlt
  by_cases e : i < l.length
  · rw [List.getElem?_append_left e] at hy
    obtain ⟨A', c', h1, h2, h3, h4⟩ := h i y hy
    exact ⟨A', c', by rw [List.getElem?_append_left (by omega)]; exact h1, by rw [List.getElem?_append_left (by omega)]; exact h2, by rw [List.getElem?_append_left (by omega)]; exact h3, h4⟩
  · have : i = l.length := by omega
    subst this
    simp at hy
    subst hy
    refine ⟨A, c, ?_, ?_, ?_, hb⟩
    · rw [List.getElem?_append_right (by omega)]; simp [hx]
    · rw [List.getElem?_append_right (by omega), show l.length * 3 + 1 - xs.length = 1 by omega]; rfl
    · rw [List.getElem?_append_right (by omega), show l.length * 3 + 2 - xs.length = 2 by omega]; rfl
/-- The i-th operation of an owned row. -/
theorem OpXB.at_ {w : World} {B N : Nat} {xs : List Value} {l : List Opn} {v : Value} (h : OpXB w B xs l) (hr : w.ownsRow N 50 3 v l.length xs) {i : Nat} {o : Opn} (ho : l[i]? = some o) :
    ∃ g c A' c', v = .slice (some ⟨g, 0, none⟩) l.length c ∧ HasT w g 50 ∧ w.cell? ⟨g, i * 3, none⟩ = some (.bool o.er) ∧ w.cell? ⟨g, i * 3 + 1, none⟩ = some (.int .i64 o.at_) ∧ w.cell? ⟨g, i * 3 + 2, none⟩ = some (.slice A' o.bs.length c') ∧ BytesB w B A' o.bs := by
  have hlt := (List.getElem?_eq_some_iff.1 ho).1
  obtain ⟨A', c', h1, h2, h3, h4⟩ := h i o ho
  have hx := hr.1
  rcases hr.2 with ⟨_, hn⟩ | ⟨g, cap, cur, rfl, _, hg, _⟩
  · omega
  · refine ⟨g, cap, A', c', rfl, ⟨_, _, hg⟩, ?_, ?_, ?_, h4⟩
    · rw [hr.cellAt _ (by omega)]; exact h1
    · rw [hr.cellAt _ (by omega)]; exact h2
    · rw [hr.cellAt _ (by omega)]; exact h3

set_option maxHeartbeats 8000000 in
set_option maxRecDepth 1000000 in
theorem law_CacheCut (r b t s o : Int) (A : Option Addr) (l : List Stp) (c : Nat) (A' : Option Addr) (l' : List Stp) (c' : Nat) (w : World) (hl : StpsB w w.heap.size A l) (h1 : l.length ≤ 140737488351232) (hl' : StpsB w w.heap.size A' l') (h1' : l'.length ≤ 140737488351232) :
    Calls Try.prog 18 #[.agg #[.int .i64 r, .int .i64 b, .int .i64 t, .int .i64 s, .int .i64 o], .slice A l.length c, .slice A' l'.length c'] w fun e w' => e = .returned (.bool true) ∧ Below w.heap.size w w' := by
  have Hl := Lib.hid hl
  have Hl' := Lib.hid hl'
  clear hl hl'
  cases hfa : fair12 (Geo.mk r b t s o) l with
  | false =>
    go_enter Try.func18, Try.ntmps18
    go_wp2_with (first | (go_at_call 59; refine (awake12_any _).mono ?_; rintro e w' ⟨rfl, hb⟩; (first | ((first | have hB1 := below_of hb hB | have hB1 := below_of hb (Below.drew hB) | have hB1 := below_of hb (below_drw hB _)); clear hB hb hc hf hz; have hB := hB1; clear hB1; obtain ⟨hc, hf, hz⟩ := bcell hB) | ((first | have hB1 := below_of hb (below_alloc hB _) | have hB1 := below_of hb (below_alloc (below_alloc hB _) _) | have hB1 := below_of hb (below_alloc (below_alloc (below_alloc hB _) _) _) | have hB1 := below_of hb (below_alloc (below_alloc (below_alloc (below_alloc hB _) _) _) _) | have hB1 := below_of hb (below_alloc (below_alloc (below_alloc (below_alloc (below_alloc hB _) _) _) _) _) | have hB1 := below_of hb (Below.drew (below_alloc hB _)) | have hB1 := below_of hb (Below.drew (below_alloc (below_alloc hB _) _)) | have hB1 := below_of hb (Below.drew (below_alloc (below_alloc (below_alloc hB _) _) _)) | have hB1 := below_of hb (Below.drew (below_alloc (below_alloc (below_alloc (below_alloc hB _) _) _) _)) | have hB1 := below_of hb (Below.drew (below_alloc (below_alloc (below_alloc (below_alloc (below_alloc hB _) _) _) _) _)) | have hB1 := below_of hb (below_drw (below_alloc hB _) _) | have hB1 := below_of hb (below_drw (below_alloc (below_alloc hB _) _) _) | have hB1 := below_of hb (below_drw (below_alloc (below_alloc (below_alloc hB _) _) _) _) | have hB1 := below_of hb (below_drw (below_alloc (below_alloc (below_alloc (below_alloc hB _) _) _) _) _) | have hB1 := below_of hb (below_drw (below_alloc (below_alloc (below_alloc (below_alloc (below_alloc hB _) _) _) _) _) _)); clear hB hc hf hz; have hB := hB1; clear hB1; obtain ⟨hc, hf, hz⟩ := bcell hB; obtain ⟨hc_, hf_, hz_⟩ := bcell hb; clear hb) | (have hB := hb; clear hb; obtain ⟨hc, hf, hz⟩ := bcell hB))) | (go_at_call 60; refine (fair12_at (w0 := w) (by repeat (first | (with_reducible exact Below.refl _ _) | (with_reducible refine Below.drew ?_) | (with_reducible refine below_drw ?_ _) | (with_reducible refine below_alloc ?_ _) | (with_reducible refine below_set ?_ (by simp <;> omega) _) | (refine below_of (by assumption) ?_))) Hl.out h1).mono ?_; rintro e w' ⟨rfl, hb⟩; rw [hfa]; (first | ((first | have hB1 := below_of hb hB | have hB1 := below_of hb (Below.drew hB) | have hB1 := below_of hb (below_drw hB _)); clear hB hb hc hf hz; have hB := hB1; clear hB1; obtain ⟨hc, hf, hz⟩ := bcell hB) | ((first | have hB1 := below_of hb (below_alloc hB _) | have hB1 := below_of hb (below_alloc (below_alloc hB _) _) | have hB1 := below_of hb (below_alloc (below_alloc (below_alloc hB _) _) _) | have hB1 := below_of hb (below_alloc (below_alloc (below_alloc (below_alloc hB _) _) _) _) | have hB1 := below_of hb (below_alloc (below_alloc (below_alloc (below_alloc (below_alloc hB _) _) _) _) _) | have hB1 := below_of hb (Below.drew (below_alloc hB _)) | have hB1 := below_of hb (Below.drew (below_alloc (below_alloc hB _) _)) | have hB1 := below_of hb (Below.drew (below_alloc (below_alloc (below_alloc hB _) _) _)) | have hB1 := below_of hb (Below.drew (below_alloc (below_alloc (below_alloc (below_alloc hB _) _) _) _)) | have hB1 := below_of hb (Below.drew (below_alloc (below_alloc (below_alloc (below_alloc (below_alloc hB _) _) _) _) _)) | have hB1 := below_of hb (below_drw (below_alloc hB _) _) | have hB1 := below_of hb (below_drw (below_alloc (below_alloc hB _) _) _) | have hB1 := below_of hb (below_drw (below_alloc (below_alloc (below_alloc hB _) _) _) _) | have hB1 := below_of hb (below_drw (below_alloc (below_alloc (below_alloc (below_alloc hB _) _) _) _) _) | have hB1 := below_of hb (below_drw (below_alloc (below_alloc (below_alloc (below_alloc (below_alloc hB _) _) _) _) _) _)); clear hB hc hf hz; have hB := hB1; clear hB1; obtain ⟨hc, hf, hz⟩ := bcell hB; obtain ⟨hc_, hf_, hz_⟩ := bcell hb; clear hb) | (have hB := hb; clear hb; obtain ⟨hc, hf, hz⟩ := bcell hB))))
    go_ret
    exact ⟨rfl, (by repeat (first | (with_reducible exact Below.refl _ _) | (with_reducible refine Below.drew ?_) | (with_reducible refine below_drw ?_ _) | (with_reducible refine below_alloc ?_ _) | (with_reducible refine below_set ?_ (by simp <;> omega) _) | (refine below_of (by assumption) ?_)))⟩
  | true =>
    cases hfa' : fair12 (Geo.mk r b t s o) l' with
    | false =>
      go_enter Try.func18, Try.ntmps18
      go_wp2_with (first | (go_at_call 59; refine (awake12_any _).mono ?_; rintro e w' ⟨rfl, hb⟩; (first | ((first | have hB1 := below_of hb hB | have hB1 := below_of hb (Below.drew hB) | have hB1 := below_of hb (below_drw hB _)); clear hB hb hc hf hz; have hB := hB1; clear hB1; obtain ⟨hc, hf, hz⟩ := bcell hB) | ((first | have hB1 := below_of hb (below_alloc hB _) | have hB1 := below_of hb (below_alloc (below_alloc hB _) _) | have hB1 := below_of hb (below_alloc (below_alloc (below_alloc hB _) _) _) | have hB1 := below_of hb (below_alloc (below_alloc (below_alloc (below_alloc hB _) _) _) _) | have hB1 := below_of hb (below_alloc (below_alloc (below_alloc (below_alloc (below_alloc hB _) _) _) _) _) | have hB1 := below_of hb (Below.drew (below_alloc hB _)) | have hB1 := below_of hb (Below.drew (below_alloc (below_alloc hB _) _)) | have hB1 := below_of hb (Below.drew (below_alloc (below_alloc (below_alloc hB _) _) _)) | have hB1 := below_of hb (Below.drew (below_alloc (below_alloc (below_alloc (below_alloc hB _) _) _) _)) | have hB1 := below_of hb (Below.drew (below_alloc (below_alloc (below_alloc (below_alloc (below_alloc hB _) _) _) _) _)) | have hB1 := below_of hb (below_drw (below_alloc hB _) _) | have hB1 := below_of hb (below_drw (below_alloc (below_alloc hB _) _) _) | have hB1 := below_of hb (below_drw (below_alloc (below_alloc (below_alloc hB _) _) _) _) | have hB1 := below_of hb (below_drw (below_alloc (below_alloc (below_alloc (below_alloc hB _) _) _) _) _) | have hB1 := below_of hb (below_drw (below_alloc (below_alloc (below_alloc (below_alloc (below_alloc hB _) _) _) _) _) _)); clear hB hc hf hz; have hB := hB1; clear hB1; obtain ⟨hc, hf, hz⟩ := bcell hB; obtain ⟨hc_, hf_, hz_⟩ := bcell hb; clear hb) | (have hB := hb; clear hb; obtain ⟨hc, hf, hz⟩ := bcell hB))) | ((go_at_call 60; refine (fair12_at (w0 := w) (by repeat (first | (with_reducible exact Below.refl _ _) | (with_reducible refine Below.drew ?_) | (with_reducible refine below_drw ?_ _) | (with_reducible refine below_alloc ?_ _) | (with_reducible refine below_set ?_ (by simp <;> omega) _) | (refine below_of (by assumption) ?_))) Hl.out h1).mono ?_; rintro e w' ⟨rfl, hb⟩; rw [hfa]; (first | ((first | have hB1 := below_of hb hB | have hB1 := below_of hb (Below.drew hB) | have hB1 := below_of hb (below_drw hB _)); clear hB hb hc hf hz; have hB := hB1; clear hB1; obtain ⟨hc, hf, hz⟩ := bcell hB) | ((first | have hB1 := below_of hb (below_alloc hB _) | have hB1 := below_of hb (below_alloc (below_alloc hB _) _) | have hB1 := below_of hb (below_alloc (below_alloc (below_alloc hB _) _) _) | have hB1 := below_of hb (below_alloc (below_alloc (below_alloc (below_alloc hB _) _) _) _) | have hB1 := below_of hb (below_alloc (below_alloc (below_alloc (below_alloc (below_alloc hB _) _) _) _) _) | have hB1 := below_of hb (Below.drew (below_alloc hB _)) | have hB1 := below_of hb (Below.drew (below_alloc (below_alloc hB _) _)) | have hB1 := below_of hb (Below.drew (below_alloc (below_alloc (below_alloc hB _) _) _)) | have hB1 := below_of hb (Below.drew (below_alloc (below_alloc (below_alloc (below_alloc hB _) _) _) _)) | have hB1 := below_of hb (Below.drew (below_alloc (below_alloc (below_alloc (below_alloc (below_alloc hB _) _) _) _) _)) | have hB1 := below_of hb (below_drw (below_alloc hB _) _) | have hB1 := below_of hb (below_drw (below_alloc (below_alloc hB _) _) _) | have hB1 := below_of hb (below_drw (below_alloc (below_alloc (below_alloc hB _) _) _) _) | have hB1 := below_of hb (below_drw (below_alloc (below_alloc (below_alloc (below_alloc hB _) _) _) _) _) | have hB1 := below_of hb (below_drw (below_alloc (below_alloc (below_alloc (below_alloc (below_alloc hB _) _) _) _) _) _)); clear hB hc hf hz; have hB := hB1; clear hB1; obtain ⟨hc, hf, hz⟩ := bcell hB; obtain ⟨hc_, hf_, hz_⟩ := bcell hb; clear hb) | (have hB := hb; clear hb; obtain ⟨hc, hf, hz⟩ := bcell hB))); clear Hl) | (go_at_call 60; refine (fair12_at (w0 := w) (by repeat (first | (with_reducible exact Below.refl _ _) | (with_reducible refine Below.drew ?_) | (with_reducible refine below_drw ?_ _) | (with_reducible refine below_alloc ?_ _) | (with_reducible refine below_set ?_ (by simp <;> omega) _) | (refine below_of (by assumption) ?_))) Hl'.out h1').mono ?_; rintro e w' ⟨rfl, hb⟩; rw [hfa']; (first | ((first | have hB1 := below_of hb hB | have hB1 := below_of hb (Below.drew hB) | have hB1 := below_of hb (below_drw hB _)); clear hB hb hc hf hz; have hB := hB1; clear hB1; obtain ⟨hc, hf, hz⟩ := bcell hB) | ((first | have hB1 := below_of hb (below_alloc hB _) | have hB1 := below_of hb (below_alloc (below_alloc hB _) _) | have hB1 := below_of hb (below_alloc (below_alloc (below_alloc hB _) _) _) | have hB1 := below_of hb (below_alloc (below_alloc (below_alloc (below_alloc hB _) _) _) _) | have hB1 := below_of hb (below_alloc (below_alloc (below_alloc (below_alloc (below_alloc hB _) _) _) _) _) | have hB1 := below_of hb (Below.drew (below_alloc hB _)) | have hB1 := below_of hb (Below.drew (below_alloc (below_alloc hB _) _)) | have hB1 := below_of hb (Below.drew (below_alloc (below_alloc (below_alloc hB _) _) _)) | have hB1 := below_of hb (Below.drew (below_alloc (below_alloc (below_alloc (below_alloc hB _) _) _) _)) | have hB1 := below_of hb (Below.drew (below_alloc (below_alloc (below_alloc (below_alloc (below_alloc hB _) _) _) _) _)) | have hB1 := below_of hb (below_drw (below_alloc hB _) _) | have hB1 := below_of hb (below_drw (below_alloc (below_alloc hB _) _) _) | have hB1 := below_of hb (below_drw (below_alloc (below_alloc (below_alloc hB _) _) _) _) | have hB1 := below_of hb (below_drw (below_alloc (below_alloc (below_alloc (below_alloc hB _) _) _) _) _) | have hB1 := below_of hb (below_drw (below_alloc (below_alloc (below_alloc (below_alloc (below_alloc hB _) _) _) _) _) _)); clear hB hc hf hz; have hB := hB1; clear hB1; obtain ⟨hc, hf, hz⟩ := bcell hB; obtain ⟨hc_, hf_, hz_⟩ := bcell hb; clear hb) | (have hB := hb; clear hb; obtain ⟨hc, hf, hz⟩ := bcell hB))))
      go_ret
      exact ⟨rfl, (by repeat (first | (with_reducible exact Below.refl _ _) | (with_reducible refine Below.drew ?_) | (with_reducible refine below_drw ?_ _) | (with_reducible refine below_alloc ?_ _) | (with_reducible refine below_set ?_ (by simp <;> omega) _) | (refine below_of (by assumption) ?_)))⟩
    | true =>
      obtain ⟨hv, hn40, h100, _⟩ := fair12_ok hfa
      obtain ⟨_, hn40', h100', _⟩ := fair12_ok hfa'
      have H100 := Lib.hid (fun s hs => Nat.le_trans (h100 s hs) (show 100 ≤ 140737488351232 by decide))
      have H100' := Lib.hid (fun s hs => Nat.le_trans (h100' s hs) (show 100 ≤ 140737488351232 by decide))
      obtain ⟨m, hm⟩ : ∃ m, Med.new (Geo.mk r b t s o) = m := ⟨_, rfl⟩
      obtain ⟨y, hy⟩ : ∃ y, Cch.steps ⟨m, []⟩ l = y := ⟨_, rfl⟩
      have hyl : y.l.length ≤ 1000000 := by have := Cch.steps_len ⟨m, []⟩ l; rw [hy] at this; simp at this; omega
      obtain ⟨d, hd⟩ : ∃ d, y.d.ops y.l = d := ⟨_, rfl⟩
      obtain ⟨pf, hpf⟩ : ∃ pf, puts d [] l' = pf := ⟨_, rfl⟩
      have hpl : pf.length ≤ 40 := by have := puts_len d [] l'; rw [hpf] at this; simp at this; omega
      have Hps := Lib.hid (show ∀ o ∈ pf, o.bs.length ≤ 140737488351232 by rw [← hpf]; exact puts_short d [] l' (by simp) H100'.out)
      have Hm := Lib.hid hm
      have Hy := Lib.hid hy
      have Hd := Lib.hid hd
      have Hpf := Lib.hid hpf
      have Hl2 := Lib.hid Hl.out
      have Hpl := Lib.hid (fun j => puts_len d [] (l'.take j))
      obtain ⟨i1, hinf1, hz01, hz11, hz21⟩ := info_parts Try.info_rops
      clear hm hy hd hpf h100 h100'
      go_enter Try.func18, Try.ntmps18
      go_wp2_with (first | (go_at_call 59; refine (awake12_any _).mono ?_; rintro e w' ⟨rfl, hb⟩; (first | ((first | have hB1 := below_of hb hB | have hB1 := below_of hb (Below.drew hB) | have hB1 := below_of hb (below_drw hB _)); clear hB hb hc hf hz; have hB := hB1; clear hB1; obtain ⟨hc, hf, hz⟩ := bcell hB) | ((first | have hB1 := below_of hb (below_alloc hB _) | have hB1 := below_of hb (below_alloc (below_alloc hB _) _) | have hB1 := below_of hb (below_alloc (below_alloc (below_alloc hB _) _) _) | have hB1 := below_of hb (below_alloc (below_alloc (below_alloc (below_alloc hB _) _) _) _) | have hB1 := below_of hb (below_alloc (below_alloc (below_alloc (below_alloc (below_alloc hB _) _) _) _) _) | have hB1 := below_of hb (Below.drew (below_alloc hB _)) | have hB1 := below_of hb (Below.drew (below_alloc (below_alloc hB _) _)) | have hB1 := below_of hb (Below.drew (below_alloc (below_alloc (below_alloc hB _) _) _)) | have hB1 := below_of hb (Below.drew (below_alloc (below_alloc (below_alloc (below_alloc hB _) _) _) _)) | have hB1 := below_of hb (Below.drew (below_alloc (below_alloc (below_alloc (below_alloc (below_alloc hB _) _) _) _) _)) | have hB1 := below_of hb (below_drw (below_alloc hB _) _) | have hB1 := below_of hb (below_drw (below_alloc (below_alloc hB _) _) _) | have hB1 := below_of hb (below_drw (below_alloc (below_alloc (below_alloc hB _) _) _) _) | have hB1 := below_of hb (below_drw (below_alloc (below_alloc (below_alloc (below_alloc hB _) _) _) _) _) | have hB1 := below_of hb (below_drw (below_alloc (below_alloc (below_alloc (below_alloc (below_alloc hB _) _) _) _) _) _)); clear hB hc hf hz; have hB := hB1; clear hB1; obtain ⟨hc, hf, hz⟩ := bcell hB; obtain ⟨hc_, hf_, hz_⟩ := bcell hb; clear hb) | (have hB := hb; clear hb; obtain ⟨hc, hf, hz⟩ := bcell hB))) | ((go_at_call 60; refine (fair12_at (w0 := w) (by repeat (first | (with_reducible exact Below.refl _ _) | (with_reducible refine Below.drew ?_) | (with_reducible refine below_drw ?_ _) | (with_reducible refine below_alloc ?_ _) | (with_reducible refine below_set ?_ (by simp <;> omega) _) | (refine below_of (by assumption) ?_))) Hl.out h1).mono ?_; rintro e w' ⟨rfl, hb⟩; rw [hfa]; (first | ((first | have hB1 := below_of hb hB | have hB1 := below_of hb (Below.drew hB) | have hB1 := below_of hb (below_drw hB _)); clear hB hb hc hf hz; have hB := hB1; clear hB1; obtain ⟨hc, hf, hz⟩ := bcell hB) | ((first | have hB1 := below_of hb (below_alloc hB _) | have hB1 := below_of hb (below_alloc (below_alloc hB _) _) | have hB1 := below_of hb (below_alloc (below_alloc (below_alloc hB _) _) _) | have hB1 := below_of hb (below_alloc (below_alloc (below_alloc (below_alloc hB _) _) _) _) | have hB1 := below_of hb (below_alloc (below_alloc (below_alloc (below_alloc (below_alloc hB _) _) _) _) _) | have hB1 := below_of hb (Below.drew (below_alloc hB _)) | have hB1 := below_of hb (Below.drew (below_alloc (below_alloc hB _) _)) | have hB1 := below_of hb (Below.drew (below_alloc (below_alloc (below_alloc hB _) _) _)) | have hB1 := below_of hb (Below.drew (below_alloc (below_alloc (below_alloc (below_alloc hB _) _) _) _)) | have hB1 := below_of hb (Below.drew (below_alloc (below_alloc (below_alloc (below_alloc (below_alloc hB _) _) _) _) _)) | have hB1 := below_of hb (below_drw (below_alloc hB _) _) | have hB1 := below_of hb (below_drw (below_alloc (below_alloc hB _) _) _) | have hB1 := below_of hb (below_drw (below_alloc (below_alloc (below_alloc hB _) _) _) _) | have hB1 := below_of hb (below_drw (below_alloc (below_alloc (below_alloc (below_alloc hB _) _) _) _) _) | have hB1 := below_of hb (below_drw (below_alloc (below_alloc (below_alloc (below_alloc (below_alloc hB _) _) _) _) _) _)); clear hB hc hf hz; have hB := hB1; clear hB1; obtain ⟨hc, hf, hz⟩ := bcell hB; obtain ⟨hc_, hf_, hz_⟩ := bcell hb; clear hb) | (have hB := hb; clear hb; obtain ⟨hc, hf, hz⟩ := bcell hB))); clear Hl) | (go_at_call 60; refine (fair12_at (w0 := w) (by repeat (first | (with_reducible exact Below.refl _ _) | (with_reducible refine Below.drew ?_) | (with_reducible refine below_drw ?_ _) | (with_reducible refine below_alloc ?_ _) | (with_reducible refine below_set ?_ (by simp <;> omega) _) | (refine below_of (by assumption) ?_))) Hl'.out h1').mono ?_; rintro e w' ⟨rfl, hb⟩; rw [hfa']; (first | ((first | have hB1 := below_of hb hB | have hB1 := below_of hb (Below.drew hB) | have hB1 := below_of hb (below_drw hB _)); clear hB hb hc hf hz; have hB := hB1; clear hB1; obtain ⟨hc, hf, hz⟩ := bcell hB) | ((first | have hB1 := below_of hb (below_alloc hB _) | have hB1 := below_of hb (below_alloc (below_alloc hB _) _) | have hB1 := below_of hb (below_alloc (below_alloc (below_alloc hB _) _) _) | have hB1 := below_of hb (below_alloc (below_alloc (below_alloc (below_alloc hB _) _) _) _) | have hB1 := below_of hb (below_alloc (below_alloc (below_alloc (below_alloc (below_alloc hB _) _) _) _) _) | have hB1 := below_of hb (Below.drew (below_alloc hB _)) | have hB1 := below_of hb (Below.drew (below_alloc (below_alloc hB _) _)) | have hB1 := below_of hb (Below.drew (below_alloc (below_alloc (below_alloc hB _) _) _)) | have hB1 := below_of hb (Below.drew (below_alloc (below_alloc (below_alloc (below_alloc hB _) _) _) _)) | have hB1 := below_of hb (Below.drew (below_alloc (below_alloc (below_alloc (below_alloc (below_alloc hB _) _) _) _) _)) | have hB1 := below_of hb (below_drw (below_alloc hB _) _) | have hB1 := below_of hb (below_drw (below_alloc (below_alloc hB _) _) _) | have hB1 := below_of hb (below_drw (below_alloc (below_alloc (below_alloc hB _) _) _) _) | have hB1 := below_of hb (below_drw (below_alloc (below_alloc (below_alloc (below_alloc hB _) _) _) _) _) | have hB1 := below_of hb (below_drw (below_alloc (below_alloc (below_alloc (below_alloc (below_alloc hB _) _) _) _) _) _)); clear hB hc hf hz; have hB := hB1; clear hB1; obtain ⟨hc, hf, hz⟩ := bcell hB; obtain ⟨hc_, hf_, hz_⟩ := bcell hb; clear hb) | (have hB := hb; clear hb; obtain ⟨hc, hf, hz⟩ := bcell hB))) | (go_at_call 67; refine (start12_any r b t s o _ hv).mono ?_; rintro e w' ⟨hb, pc, pd, rfl, hC, hD⟩; rw [Hm.out] at hC hD; have C := Lib.hid (hC.mono (M := w.heap.size) (Below.size (B := w.heap.size) (by repeat (first | (with_reducible exact Below.refl _ _) | (with_reducible refine Below.drew ?_) | (with_reducible refine below_drw ?_ _) | (with_reducible refine below_alloc ?_ _) | (with_reducible refine below_set ?_ (by simp <;> omega) _) | (refine below_of (by assumption) ?_))))); have D := Lib.hid (hD.mono (M := w.heap.size) (Below.size (B := w.heap.size) (by repeat (first | (with_reducible exact Below.refl _ _) | (with_reducible refine Below.drew ?_) | (with_reducible refine below_drw ?_ _) | (with_reducible refine below_alloc ?_ _) | (with_reducible refine below_set ?_ (by simp <;> omega) _) | (refine below_of (by assumption) ?_))))); clear hC hD; (first | ((first | have hB1 := below_of hb hB | have hB1 := below_of hb (Below.drew hB) | have hB1 := below_of hb (below_drw hB _)); clear hB hb hc hf hz; have hB := hB1; clear hB1; obtain ⟨hc, hf, hz⟩ := bcell hB) | ((first | have hB1 := below_of hb (below_alloc hB _) | have hB1 := below_of hb (below_alloc (below_alloc hB _) _) | have hB1 := below_of hb (below_alloc (below_alloc (below_alloc hB _) _) _) | have hB1 := below_of hb (below_alloc (below_alloc (below_alloc (below_alloc hB _) _) _) _) | have hB1 := below_of hb (below_alloc (below_alloc (below_alloc (below_alloc (below_alloc hB _) _) _) _) _) | have hB1 := below_of hb (Below.drew (below_alloc hB _)) | have hB1 := below_of hb (Below.drew (below_alloc (below_alloc hB _) _)) | have hB1 := below_of hb (Below.drew (below_alloc (below_alloc (below_alloc hB _) _) _)) | have hB1 := below_of hb (Below.drew (below_alloc (below_alloc (below_alloc (below_alloc hB _) _) _) _)) | have hB1 := below_of hb (Below.drew (below_alloc (below_alloc (below_alloc (below_alloc (below_alloc hB _) _) _) _) _)) | have hB1 := below_of hb (below_drw (below_alloc hB _) _) | have hB1 := below_of hb (below_drw (below_alloc (below_alloc hB _) _) _) | have hB1 := below_of hb (below_drw (below_alloc (below_alloc (below_alloc hB _) _) _) _) | have hB1 := below_of hb (below_drw (below_alloc (below_alloc (below_alloc (below_alloc hB _) _) _) _) _) | have hB1 := below_of hb (below_drw (below_alloc (below_alloc (below_alloc (below_alloc (below_alloc hB _) _) _) _) _) _)); clear hB hc hf hz; have hB := hB1; clear hB1; obtain ⟨hc, hf, hz⟩ := bcell hB; obtain ⟨hc_, hf_, hz_⟩ := bcell hb; clear hb) | (have hB := hb; clear hb; obtain ⟨hc, hf, hz⟩ := bcell hB))) | (go_at_call 68; have E0 : Below w.heap.size w w' := (by repeat (first | (with_reducible exact Below.refl _ _) | (with_reducible refine Below.drew ?_) | (with_reducible refine below_drw ?_ _) | (with_reducible refine below_alloc ?_ _) | (with_reducible refine below_set ?_ (by simp <;> omega) _) | (refine below_of (by assumption) ?_))); refine (play12_at (w0 := w) w.heap.size pc pd ⟨m, []⟩ C.out D.out E0 (Nat.le_refl _) Hl2.out (by simp; omega) H100.out).mono ?_; rintro e w5 ⟨pc2, rfl, hC, hD, hF⟩; rw [Hy.out] at hC hD; have C2 := Lib.hid hC; have D2 := Lib.hid hD; have E2 := Lib.hid (below_frT E0 hF (Nat.le_refl _)); clear hC hD hF E0 C D) | (go_at_call 64; refine (cflush_any w.heap.size pc2 y.d y.l _ C2.out hyl).mono ?_; rintro e w6 ⟨rfl, hC, hF⟩; rw [Hd.out] at hC; have C3 := Lib.hid hC; have D3 := Lib.hid (D2.out.frT hF cacheTs_rcache); have E3 := Lib.hid (below_frT E2.out hF (Nat.le_refl _)); clear hC hF C2 D2) | (go_at_call 70; refine (rcflush_any w.heap.size pd y.d y.l _ D3.out hyl).mono ?_; rintro e w7 ⟨rfl, hD, hF⟩; rw [Hd.out] at hD; have D4 := Lib.hid hD; have C4 := Lib.hid (C3.out.frT hF rcacheTs_cache); have E4 := Lib.hid (below_frT E3.out hF (Nat.le_refl _)); clear hD hF C3 D3))
      have hsz7 := E4.out.size
      clear hB hc hf hz
      go_loopw [10, 11] (fun v i wr => ∃ j : Nat, j ≤ l'.length ∧ i = .int .i64 j ∧ (∃ xs, wr.ownsRow w7.heap.size 50 3 v (puts d [] (l'.take j)).length xs ∧ OpXB wr w.heap.size xs (puts d [] (l'.take j))) ∧ IsCache wr w.heap.size pc2 d (puts d [] (l'.take j)) ∧ FrT w.heap.size cacheTs w7 wr) (fun _ i _ => l'.length - (intOf i).toNat)
      case atStart => exact ⟨0, Nat.zero_le _, rfl, ⟨[], World.ownsRow_nil _ _ _ _, fun i o ho => by simp [puts] at ho⟩, C4.out, FrT.refl _ _ _⟩
      case round =>
        obtain ⟨j, hj, rfl, ⟨xs, hrow, hxs⟩, C, F⟩ := hrel
        have hsz := F.size
        by_cases hjn : j < l'.length
        · have ho : l'[j]? = some l'[j] := List.getElem?_eq_getElem hjn
          have htk : l'.take (j + 1) = l'.take j ++ [l'[j]] := List.take_succ_eq_append_getElem hjn
          have hmem : l'[j] ∈ l' := List.getElem_mem hjn
          generalize l'[j] = s at *
          have hbw : Below w.heap.size w wr := below_frT E4.out F (Nat.le_refl _)
          have hsum : puts d [] (l'.take (j + 1)) = push d (puts d [] (l'.take j)) s.op := by rw [htk, puts_snoc]
          have hplj : (puts d [] (l'.take j)).length ≤ 40 := by have := Hpl.out j; rw [List.length_take] at this; simp at this; omega
          generalize puts d [] (l'.take j) = pl at *
          have hplb : pl.length ≤ 1000000 := by omega
          have hc : ∃ g off A9 c9, A' = some ⟨g, off, none⟩ ∧ g < w.heap.size ∧ HeldOp w.heap.size w g (off + j * 5 + 1) s.op.er s.op.at_ A9 s.op.bs.length c9 wr ∧ BytesB wr w.heap.size A9 s.op.bs := by
            rcases (Hl'.out.below hbw) with h1 | ⟨g, off, h1, h2, h3⟩
            · rw [h1] at hjn; simp at hjn
            · obtain ⟨_, ⟨A9, c9, h4, h5, h6, h7⟩, _⟩ := h3 j s ho
              exact ⟨g, off, A9, c9, h1, h2, ⟨h4, h5, h6, hbw⟩, h7⟩
          obtain ⟨g, off, A9, c9, rfl, hg, hop, hby⟩ := hc
          have hbl := H100'.out s hmem
          obtain ⟨A8, c8, rfl⟩ := owns_slice hrow
          have Hs := Lib.hid hsum
          have Hby := Lib.hid hby
          have Hop := Lib.hid hop
          obtain ⟨k0, k1, k2, _⟩ := hop
          have k1' : wr.cell? ⟨g, off + j * 5 + 2, none⟩ = _ := k1
          have k2' : wr.cell? ⟨g, off + j * 5 + 3, none⟩ = _ := k2
          have HC := Lib.hid C
          have HF := Lib.hid F
          have Hrow := Lib.hid hrow
          have Hxs := Lib.hid hxs
          have hwr : w.heap.size ≤ wr.heap.size := hbw.size
          obtain ⟨E, hE⟩ : ∃ E, (d.ops pl).opE ⟨s.op.er, s.op.at_, s.op.bs⟩ = E := ⟨_, rfl⟩
          have HE := Lib.hid hE
          clear hsum htk ho hmem hby C F hrow hxs hbw k1 k2 hE
          by_cases hE0 : E = 0
          · subst hE0
            go_wp2_with (first | (go_at_call 71; refine (do12_any w.heap.size pc2 d pl s.op.er s.op.at_ s.op.bs A9 c9 _ HC.out Hby.out.rd hbl hplb).mono ?_; rintro e w1 ⟨rfl, C1, F1⟩; rw [HE.out]; have hb1 : Below w.heap.size wr w1 := F1.below0 hwr (Nat.le_refl _); obtain ⟨x0, x1, x2, _⟩ := Hop.out.keepB hb1 hg; have x1' : w1.cell? ⟨g, off + j * 5 + 2, none⟩ = _ := x1; have x2' : w1.cell? ⟨g, off + j * 5 + 3, none⟩ = _ := x2; have Row1 := Lib.hid (owns_frame' Hrow.out F1 (avoid_TS (by decide))); have Xs1 := Lib.hid (Hxs.out.below hb1); have By1 := Lib.hid (Hby.out.below hb1); have HC1 := Lib.hid C1; have HF1 := Lib.hid (HF.out.trans F1); have hs1 := hb1.size; have hs2 := F1.size; clear C1 F1 hb1 x1 x2) | (at_builtin; refine wpList_append_own _ rfl _ _ 46 rfl w7.heap.size 50 i1 _ 3 40 Try.underlying46 hinf1 hz01 hz11 hz21 rfl (by decide) _ _ _ rfl (Row1.out.alloc _) ⟨w1.heap.size, 0, none⟩ 1 1 [.bool s.op.er, .int .i64 s.op.at_, .slice A9 s.op.bs.length c9] rfl rfl (cells_new _ _ _) ?c2 ?c3 ?c4 ?c5 ?_))
            case c2 => intro u hu; simp at hu; rcases hu with rfl | rfl | rfl <;> rfl
            case c3 => unfold maxLen; omega
            case c4 => omega
            case c5 => simp; omega
            intro v' w2 hown hgrow _
            obtain ⟨A7, c7, rfl⟩ := owns_slice hown
            have RowA := Row1.out.alloc (.cells #[.bool s.op.er, .int .i64 s.op.at_, .slice A9 s.op.bs.length c9] 50)
            have FA : FrT w7.heap.size [50] (w1.alloc (.cells #[.bool s.op.er, .int .i64 s.op.at_, .slice A9 s.op.bs.length c9] 50)) w2 := FrT.grown (FrT.refl _ _ _) hgrow (fun k hk => ⟨(owns_own RowA k hk).1, _, by simp, (owns_own RowA k hk).2⟩)
            have FB : FrT w7.heap.size [50] w1 w2 := (FrT.ofBelow ((Below.refl _ _).alloc (Nat.le_refl _) _)).trans FA
            have HC2 := Lib.hid (HC1.out.frT FB (by decide))
            have HF2 : Hid (FrT w.heap.size cacheTs w7 w2) := Lib.hid (Fr.transW (T := TS w7.heap.size [50] w1) HF1.out FB (fun i hi ht => absurd ht.1 (by omega)))
            have HX2 := Lib.hid ((Xs1.out.snoc (c := c9) Row1.out.1 By1.out).below (FB.below0 (by omega) (by omega)))
            have Hown := Lib.hid hown
            clear FA FB hown hgrow RowA
            go_wp2_with fail
            go_roundw
            case rel =>
              have hpo := push_ok (o := s.op) HE.out
              exact ⟨j + 1, by omega, by go_num, by rw [Hs.out, hpo, List.length_append]; exact ⟨_, Hown.out, HX2.out⟩, by rw [Hs.out]; exact HC2.out, HF2.out⟩
            case measure => simp [intOf]; omega
          · have X1 : (E == 0) = false := by simpa using hE0
            have HE0 := Lib.hid hE0
            clear hE0
            go_wp2_with (first | (go_at_call 71; refine (do12_any w.heap.size pc2 d pl s.op.er s.op.at_ s.op.bs A9 c9 _ HC.out Hby.out.rd hbl hplb).mono ?_; rintro e w1 ⟨rfl, C1, F1⟩; rw [HE.out]; have Row1 := Lib.hid (owns_frame' Hrow.out F1 (avoid_TS (by decide))); have Xs1 := Lib.hid (Hxs.out.below (F1.below0 hwr (Nat.le_refl _))); have HC1 := Lib.hid C1; have HF1 := Lib.hid (HF.out.trans F1); clear C1 F1))
            go_roundw
            case rel =>
              have hpo := push_bad (o := s.op) (fun h => HE0.out (HE.out.symm.trans h))
              exact ⟨j + 1, by omega, by go_num, by rw [Hs.out, hpo]; exact ⟨_, Row1.out, Xs1.out⟩, by rw [Hs.out]; exact HC1.out, HF1.out⟩
            case measure => simp [intOf]; omega
        · have htk : l'.take j = l' := List.take_of_length_le (by omega)
          rw [htk, Hpf.out] at C
          rw [htk, Hpf.out] at hrow hxs
          obtain ⟨A8, c8, rfl⟩ := owns_slice hrow
          have HC := Lib.hid C
          have HF := Lib.hid F
          have Hrow := Lib.hid hrow
          have Hxs := Lib.hid hxs
          have hE7 := E4.out
          have Ew := Lib.hid (below_frT E4.out F (Nat.le_refl _))
          have Dw := Lib.hid (D4.out.frT F cacheTs_rcache)
          have hwr : w.heap.size ≤ wr.heap.size := Ew.out.size
          clear C F hrow hxs htk
          obtain ⟨w8, h⟩ : ∃ x, x = wr := ⟨_, rfl⟩
          subst h
          obtain ⟨n2, hn2⟩ : ∃ n2 : Nat, (pf.length : Int) / 2 = (n2 : Int) := ⟨pf.length / 2, by omega⟩
          have hn2l : n2 ≤ pf.length := by omega
          have hkn : keepN (n2 : Int) pf = n2 := by unfold keepN; omega
          have Hkn := Lib.hid hkn
          clear hkn
          go_wp2_with (go_at_call 72; refine (ccut_any w.heap.size pc2 d pf n2 _ HC.out (by omega)).mono ?_; rintro e w9 ⟨rfl, C1, F1⟩; rw [Hkn.out] at C1; have HC9 := Lib.hid C1; have Row9 := Lib.hid (owns_frame' Hrow.out F1 (avoid_TS (by decide))); have Xs9 := Lib.hid (Hxs.out.below (F1.below0 hwr (Nat.le_refl _))); have D9 := Lib.hid (Dw.out.frT F1 cacheTs_rcache); have E9 := Lib.hid (below_frT Ew.out F1 (Nat.le_refl _)); have hs9 := F1.size; clear C1 F1)
          have Hn2 := Lib.hid hn2
          obtain ⟨p, q, n, v, xs9, D0⟩ := D9.out
          have HD0 := Lib.hid D0
          have HM0 := Lib.hid D0.med
          obtain ⟨Av, cv, hv', _, _⟩ := D0.form
          subst hv'
          have hq0 : w.heap.size ≤ q := D0.le.2.2
          clear hn2 D0
          go_loopw [13] (fun i wr => ∃ j : Nat, j ≤ n2 ∧ i = .int .i64 j ∧ IsRef wr p q n (d.ops (pf.take j)) ∧ Fr (· = q) w9 wr) (fun i _ => n2 - (intOf i).toNat)
          case atStart => exact ⟨0, Nat.zero_le _, rfl, HM0.out, Fr.refl _ _⟩
          case round =>
            obtain ⟨j, hj, rfl, M, F⟩ := hrel
            have AQ : Avoid (· = q) w9 [50] := avoid_one HM0.out.hasQ (by decide)
            have hbr := F.below (B := w.heap.size) E9.out.size (fun k hk e => by omega)
            have hE10 := below_trB E9.out hbr
            have Dw2 := Lib.hid (HD0.out.turned F M)
            by_cases hjn : j < n2
            · have hjl : j < pf.length := by omega
              have ho : pf[j]? = some pf[j] := List.getElem?_eq_getElem hjl
              have htk : pf.take (j + 1) = pf.take j ++ [pf[j]] := List.take_succ_eq_append_getElem hjl
              have hos := Hps.out pf[j] (List.getElem_mem hjl)
              generalize pf[j] = o at *
              have hsum : d.ops (pf.take (j + 1)) = (d.ops (pf.take j)).op o := by rw [htk, Med.ops_snoc]
              generalize d.ops (pf.take j) = mj at *
              have Rowr := owns_frame' Row9.out F AQ
              obtain ⟨g, c9, A9, c0', hv9, hg, k0, k1, k2, hby⟩ := (Xs9.out.below hbr).at_ Rowr ho
              injection hv9 with hv1 _ hv3
              subst hv1
              subst hv3
              have hpq : pd ≠ q := Dw2.out.1.hasC.ne M.hasQ (by decide)
              have hgq : g ≠ q := hg.ne M.hasQ (by decide)
              have Hs := Lib.hid hsum
              have HM := Lib.hid M.drew
              have HF := Lib.hid F.drew
              have Hby := Lib.hid (hby.rd.below (Below.refl _ _).drew)
              have hpl9 := Dw2.out.1.hasC.lt
              have c0 := Dw2.out.1.c0
              have c1 := Dw2.out.1.c1
              have HH := Lib.hid (show HeldR pd g (j * 3) _ _ _ _ _ wr.drew from ⟨c0, c1, k0, k1, k2⟩)
              clear hsum M F htk ho hby AQ hbr hE10 Rowr
              go_wp2_with fail
              go_region_held3 (fun W_ => W_.cell? ⟨pd, 0, none⟩ = some (.pointer (some ⟨p, 0, none⟩)) ∧ W_.cell? ⟨pd, 1, none⟩ = some (.slice Av 0 cv) ∧ W_.cell? ⟨g, j * 3, none⟩ = some (.bool o.er) ∧ W_.cell? ⟨g, j * 3 + 1, none⟩ = some (.int .i64 o.at_) ∧ W_.cell? ⟨g, j * 3 + 2, none⟩ = some (.slice A9 o.bs.length c0')) (first | exact HH.out | exact HeldR.keep (by assumption) (by assumption) hpq hgq) (first | (go_at_call 61; refine (rdo_any p q n mj o.er o.at_ o.bs A9 c0' _ HM.out Hby.out hos).mono ?_; rintro e w2 ⟨rfl, hM, hF⟩; have HM1 := Lib.hid hM; have HF1 := Lib.hid (HF.out.trans hF); clear hM))
              all_goals (try go_wp2)
              all_goals go_roundw
              case rel => exact ⟨j + 1, by omega, by go_num, by rw [Hs.out]; exact HM1.out, HF1.out⟩
              case measure => simp [intOf]; omega
            · have hjn' : j = n2 := by omega
              subst hjn'
              have HCr := Lib.hid (HC9.out.keepA F (avoid_one HM0.out.hasQ (by decide)))
              have HDr : Hid (IsRCache wr w.heap.size pd (d.ops (pf.take j)) []) := Lib.hid ⟨_, _, _, _, _, Dw2.out.1⟩
              have HE10 := Lib.hid hE10
              clear M F AQ hbr hE10
              go_wp2_with (go_at_call 69; refine (same12_any _ _ pc2 pd (d.ops (pf.take j)) [] _ HCr.out HDr.out (by decide)).mono ?_; rintro e w12 ⟨rfl, hb12⟩; have E11 := below_of hb12 HE10.out; clear hb12)
              go_ret
              exact ⟨rfl, E11⟩
end Go.Proofs.Ytmloiifnadaaoaa
