/- The law DiskDies. -/
import Derived.Test.YtmloiifnadaaoaaGreatDskA
namespace Go.Proofs.YtmloiifnadaaoaaGreat
open Go.RowKit
set_option linter.unusedVariables false
set_option linter.unusedSimpArgs false

theorem kill_two (w : World) {B pp : Nat} {q : Bool → Nat} {P : Pow} {D : Bool → Dsk} (h : Two w B pp q P D) (i : Bool) : Calls Tryz.prog 8 #[.pointer (some ⟨q i, 0, none⟩)] w fun e w' => e = .returned (.tuple #[]) ∧ Two w' B pp q P (upd D i { D i with dead := true }) ∧ (∃ G : Nat → Prop, FrG G diskTs w w') ∧ Below B w w' := by
  obtain ⟨F, T⟩ := h
  refine (dkill_any w (T.one i)).mono ?_
  rintro e w' ⟨rfl, hD, hF⟩
  have hG := frG_dsk (T.one i) hF
  exact ⟨rfl, T.step hD ((T.pone i).keepA hF (avoid_one (T.one i).hasD (by decide))) hG, ⟨_, hG⟩, T.bel hG⟩
/-- The reference's disk is marked dead. -/
theorem rkill_two {w : World} {B pp : Nat} {q : Bool → Nat} {P : Pow} {D : Bool → Dsk} (h : RTwo w B pp q P D) (i : Bool) : RTwo (w.setCell ⟨q i, 9, none⟩ (.bool true)) B pp q P (upd D i { D i with dead := true }) ∧ (∃ G : Nat → Prop, FrG G rdiskTs w (w.setCell ⟨q i, 9, none⟩ (.bool true))) ∧ Below B w (w.setCell ⟨q i, 9, none⟩ (.bool true)) := by
  obtain ⟨F, T⟩ := h
  obtain ⟨pc, A, c, h1⟩ := T.one i
  obtain ⟨g1, g2⟩ := h1.store (D' := { D i with dead := true }) (i := 9) (v := .bool true) rfl rfl rfl rfl
  exact ⟨T.step ⟨pc, A, c, g1⟩ (IsRPow.setD (T.pone i) h1.hasD 9 _) g2, ⟨_, g2⟩, T.bel g2⟩
theorem rkill_cells {w : World} {B pp : Nat} {q : Bool → Nat} {P : Pow} {D : Bool → Dsk} (h : RTwo w B pp q P D) (i : Bool) : w.cell? ⟨q i, 9, none⟩ = some (.bool (D i).dead) ∧ w.frozen? ⟨q i, 9, none⟩ = false ∧ q i < w.heap.size := by
  obtain ⟨G, ⟨pc, A, c, h1⟩, _⟩ := h.disk i
  obtain ⟨_, _, _, _, k9, _, _, _, _, _, _, hl⟩ := h1.cells
  exact ⟨k9, h1.fz 9, hl⟩
/-- Both disks of a pair, the first one dead. -/
theorem dead_act {S : St} {a : Act} (ha : a.op = true) (h : (S.d false).dead = true) : ((S.act a).d false).dead = true ∧ (a.side = false → ((S.d a.side).actO S.p a).e = 14) := by
  cases hs : a.side with
  | false =>
    have hb := Dsk.begin_state (D := S.d false) (P := S.p) (by rw [Dsk.state_dead h]; decide) a.key
    rw [Dsk.state_dead h] at hb
    have ho : (S.d false).actO S.p a = ⟨14, S.d false, S.p⟩ := by rw [Dsk.actO_stop ha (by rw [hb]; show (14 : Int) ≠ 0; decide), hb]
    refine ⟨?_, fun _ => by rw [ho]⟩
    unfold St.act St.out
    rw [hs, ho]
    show (upd S.d false (S.d false) false).dead = true
    rw [upd_same]; exact h
  | true =>
    refine ⟨?_, fun e => by cases e⟩
    unfold St.act
    rw [hs]
    show (upd S.d true (S.out a).d false).dead = true
    rw [upd_other _ (by decide)]; exact h
theorem dead_acts {S : St} (l : List Act) (h : (S.d false).dead = true) (hl : ∀ a ∈ l, a.op = true) : ((S.acts l).d false).dead = true := by
  unfold St.acts
  induction l generalizing S with
  | nil => exact h
  | cons a l ih => exact ih (dead_act (hl a (List.mem_cons_self ..)) h).1 (fun x hx => hl x (List.mem_cons_of_mem _ hx))
theorem side_even (a : Act) : a.side = false ↔ a.disk.toNat % 2 = 0 := by unfold Act.side; simp only [decide_eq_false_iff_not]; omega
theorem dead_acq {S : St} (h : (S.d false).dead = true) : (S.d false).acqO S.p 1 = ⟨14, S.d false, S.p⟩ := by
  unfold Dsk.acqO
  rw [Dsk.state_dead h, if_neg (by decide)]
theorem dead_restart {S : St} (h : (S.d false).dead = true) : (S.d false).restartO S.p 0 = ⟨14, S.d false, S.p⟩ := by
  unfold Dsk.restartO
  rw [if_pos h]
theorem ActsAt.later {w : World} {B : Nat} {A : Option Addr} {l : List Act} {j : Nat} (h : ActsAt w B A l j) : ActsAt w B A l (j + 1) := by
  refine h.imp id ?_
  rintro ⟨g, xs, h1, h2, h3, h4⟩
  exact ⟨g, xs, h1, h2, h3, fun i a hi ha => h4 i a (by omega) ha⟩
/-- The j-th act, as a round reads it. -/
theorem acts_read {w : World} {B : Nat} {A : Option Addr} {l : List Act} {j nx : Nat} {a : Act} {p0 p1 p2 : Option Addr} (h : ActsAt w B A l j) (ha : l[j]? = some a) (hx : Row 35 nx (pairCells p0 p1 p2) w) :
    ∃ g A' c', A = some ⟨g, 0, none⟩ ∧ B ≤ g ∧ HasT w g 55 ∧ g < w.heap.size ∧ a.bs.length ≤ c' ∧ BytesB w B A' a.bs ∧
      HeldA nx (.pointer p0) (.pointer p1) (.pointer p2) g (j * 6) (.int .u8 (a.disk.toNat : Int)) (.int .u8 (a.kind.toNat : Int)) (.int .u64 a.key) (.int .i64 a.at_) (.slice A' a.bs.length c') (.bool a.force) w := by
  obtain ⟨g, xs, A', c', rfl, h2, h3, h4, h5, h6⟩ := h.get ha
  exact ⟨g, A', c', rfl, h2, h3.hasT, h3.lt, h6, h5, hx.cell (i := 0) rfl, hx.cell (i := 1) rfl, hx.cell (i := 2) rfl, h3.cell (h4 0 (by omega)), h3.cell (h4 1 (by omega)), h3.cell (h4 2 (by omega)), h3.cell (h4 3 (by omega)), h3.cell (h4 4 (by omega)), h3.cell (h4 5 (by omega))⟩
def HeldU (ny : Nat) (p0 p1 : Value) (g k : Nat) (u0 u1 u2 u3 u4 u5 : Value) (W : World) : Prop :=
  W.cell? ⟨ny, 0, none⟩ = some p0 ∧ W.cell? ⟨ny, 1, none⟩ = some p1 ∧ W.cell? ⟨g, k, none⟩ = some u0 ∧ W.cell? ⟨g, k + 1, none⟩ = some u1 ∧ W.cell? ⟨g, k + 2, none⟩ = some u2 ∧ W.cell? ⟨g, k + 3, none⟩ = some u3 ∧ W.cell? ⟨g, k + 4, none⟩ = some u4 ∧ W.cell? ⟨g, k + 5, none⟩ = some u5
theorem HeldU.frG {ny : Nat} {p0 p1 : Value} {g k : Nat} {u0 u1 u2 u3 u4 u5 : Value} {W W' : World} {G : Nat → Prop} (h : HeldU ny p0 p1 g k u0 u1 u2 u3 u4 u5 W) (hF : FrG G rdiskTs W W') (hx : HasT W ny 40) (hg : HasT W g 55) : HeldU ny p0 p1 g k u0 u1 u2 u3 u4 u5 W' := by
  have h1 := (avoid_TG (G := G) (w := W) (Ts := rdiskTs) (Us := [40]) (by decide)).not hx (by simp)
  have h2 := (avoid_TG (G := G) (w := W) (Ts := rdiskTs) (Us := [55]) (by decide)).not hg (by simp)
  exact ⟨Fr.cell hF h.1 h1, Fr.cell hF h.2.1 h1, Fr.cell hF h.2.2.1 h2, Fr.cell hF h.2.2.2.1 h2, Fr.cell hF h.2.2.2.2.1 h2, Fr.cell hF h.2.2.2.2.2.1 h2, Fr.cell hF h.2.2.2.2.2.2.1 h2, Fr.cell hF h.2.2.2.2.2.2.2 h2⟩
def stK (g : Geo) (l0 l1 : List Flt) : St := ⟨Pow.new, upd (newSt g l0 l1) false { newSt g l0 l1 false with dead := true }⟩
theorem stK_small (g : Geo) {l0 l1 : List Flt} (h0 : l0.length ≤ 20) (h1 : l1.length ≤ 20) {l : List Act} (hl : l.length ≤ 60) : Small ((stK g l0 l1).acts l).d := by
  have hf : ∀ i, ((stK g l0 l1).d i).fl.length ≤ 20 ∧ ((stK g l0 l1).d i).c.l.length = 0 := by
    intro i
    cases i
    · exact ⟨h0, rfl⟩
    · exact ⟨h1, rfl⟩
  constructor <;> intro i
  · rw [(St.acts_fl (stK g l0 l1) l i).1]; have := (hf i).1; omega
  · have h9 := (St.acts_fl (stK g l0 l1) l i).2
    have h2 := (hf i).2
    omega

set_option maxHeartbeats 16000000 in
set_option maxRecDepth 1000000 in
theorem law_DiskDies (r b t s o : Int) (A0 : Option Addr) (l0 : List Flt) (c0 : Nat) (A1 : Option Addr) (l1 : List Flt) (c1 : Nat) (A2 : Option Addr) (la : List Act) (c2 : Nat) (w : World) (h0 : FltsRd w A0 l0) (hl0 : l0.length * 24 ≤ 140737488351232) (h1 : FltsRd w A1 l1) (hl1 : l1.length * 24 ≤ 140737488351232) (h2 : ActsB w w.heap.size A2 la) (hla : la.length ≤ 140737488351232) :
    Calls Tryz.prog 3 #[.agg (caseCells r b t s o (.slice A0 l0.length c0) (.slice A1 l1.length c1) (.slice A2 la.length c2))] w fun e w' => e = .returned (.bool true) ∧ Below w.heap.size w w' := by
  have H0 := Lib.hid h0
  have H1 := Lib.hid h1
  have H2 := Lib.hid h2
  clear h0 h1 h2
  cases hfa : fair14 (Geo.mk r b t s o) l0 l1 la with
  | false =>
    go_enter Tryz.func3, Tryz.ntmps3
    go_wp2_with (first | (go_at_call 4; refine (awake14_any _).mono ?_; rintro e w' ⟨rfl, hb⟩; (first | ((first | have hB1 := below_of hb hB | have hB1 := below_of hb (Below.drew hB) | have hB1 := below_of hb (below_drw hB _)); clear hB hb hc hf hz; have hB := hB1; clear hB1; obtain ⟨hc, hf, hz⟩ := bcell hB) | ((first | have hB1 := below_of hb (below_alloc hB _) | have hB1 := below_of hb (below_alloc (below_alloc hB _) _) | have hB1 := below_of hb (below_alloc (below_alloc (below_alloc hB _) _) _) | have hB1 := below_of hb (below_alloc (below_alloc (below_alloc (below_alloc hB _) _) _) _) | have hB1 := below_of hb (below_alloc (below_alloc (below_alloc (below_alloc (below_alloc hB _) _) _) _) _) | have hB1 := below_of hb (Below.drew (below_alloc hB _)) | have hB1 := below_of hb (Below.drew (below_alloc (below_alloc hB _) _)) | have hB1 := below_of hb (Below.drew (below_alloc (below_alloc (below_alloc hB _) _) _)) | have hB1 := below_of hb (Below.drew (below_alloc (below_alloc (below_alloc (below_alloc hB _) _) _) _)) | have hB1 := below_of hb (Below.drew (below_alloc (below_alloc (below_alloc (below_alloc (below_alloc hB _) _) _) _) _)) | have hB1 := below_of hb (below_drw (below_alloc hB _) _) | have hB1 := below_of hb (below_drw (below_alloc (below_alloc hB _) _) _) | have hB1 := below_of hb (below_drw (below_alloc (below_alloc (below_alloc hB _) _) _) _) | have hB1 := below_of hb (below_drw (below_alloc (below_alloc (below_alloc (below_alloc hB _) _) _) _) _) | have hB1 := below_of hb (below_drw (below_alloc (below_alloc (below_alloc (below_alloc (below_alloc hB _) _) _) _) _) _)); clear hB hc hf hz; have hB := hB1; clear hB1; obtain ⟨hc, hf, hz⟩ := bcell hB; obtain ⟨hc_, hf_, hz_⟩ := bcell hb; clear hb) | (have hB := hb; clear hb; obtain ⟨hc, hf, hz⟩ := bcell hB))) | (go_at_call 5; refine (fair14_at (w0 := w) (by repeat (first | (with_reducible exact Below.refl _ _) | (with_reducible refine Below.drew ?_) | (with_reducible refine below_drw ?_ _) | (with_reducible refine below_alloc ?_ _) | (with_reducible refine below_set ?_ (by simp <;> omega) _) | (refine below_of (by assumption) ?_))) H0.out H1.out H2.out hl0 hl1 hla).mono ?_; rintro e w' ⟨rfl, hb⟩; rw [hfa]; (first | ((first | have hB1 := below_of hb hB | have hB1 := below_of hb (Below.drew hB) | have hB1 := below_of hb (below_drw hB _)); clear hB hb hc hf hz; have hB := hB1; clear hB1; obtain ⟨hc, hf, hz⟩ := bcell hB) | ((first | have hB1 := below_of hb (below_alloc hB _) | have hB1 := below_of hb (below_alloc (below_alloc hB _) _) | have hB1 := below_of hb (below_alloc (below_alloc (below_alloc hB _) _) _) | have hB1 := below_of hb (below_alloc (below_alloc (below_alloc (below_alloc hB _) _) _) _) | have hB1 := below_of hb (below_alloc (below_alloc (below_alloc (below_alloc (below_alloc hB _) _) _) _) _) | have hB1 := below_of hb (Below.drew (below_alloc hB _)) | have hB1 := below_of hb (Below.drew (below_alloc (below_alloc hB _) _)) | have hB1 := below_of hb (Below.drew (below_alloc (below_alloc (below_alloc hB _) _) _)) | have hB1 := below_of hb (Below.drew (below_alloc (below_alloc (below_alloc (below_alloc hB _) _) _) _)) | have hB1 := below_of hb (Below.drew (below_alloc (below_alloc (below_alloc (below_alloc (below_alloc hB _) _) _) _) _)) | have hB1 := below_of hb (below_drw (below_alloc hB _) _) | have hB1 := below_of hb (below_drw (below_alloc (below_alloc hB _) _) _) | have hB1 := below_of hb (below_drw (below_alloc (below_alloc (below_alloc hB _) _) _) _) | have hB1 := below_of hb (below_drw (below_alloc (below_alloc (below_alloc (below_alloc hB _) _) _) _) _) | have hB1 := below_of hb (below_drw (below_alloc (below_alloc (below_alloc (below_alloc (below_alloc hB _) _) _) _) _) _)); clear hB hc hf hz; have hB := hB1; clear hB1; obtain ⟨hc, hf, hz⟩ := bcell hB; obtain ⟨hc_, hf_, hz_⟩ := bcell hb; clear hb) | (have hB := hb; clear hb; obtain ⟨hc, hf, hz⟩ := bcell hB))))
    all_goals go_ret
    all_goals exact ⟨rfl, (by repeat (first | (with_reducible exact Below.refl _ _) | (with_reducible refine Below.drew ?_) | (with_reducible refine below_drw ?_ _) | (with_reducible refine below_alloc ?_ _) | (with_reducible refine below_set ?_ (by simp <;> omega) _) | (refine below_of (by assumption) ?_)))⟩
  | true =>
    obtain ⟨hv, _, hn60, hm0, hm1, h100, hf0, hf1⟩ := fair14_ok hfa
    have HF0 := Lib.hid hf0
    have HF1 := Lib.hid hf1
    have bx := Row.new w 28 (caseCells r b t s o (.slice A0 l0.length c0) (.slice A1 l1.length c1) (.slice A2 la.length c2))
    have BX := Lib.hid bx
    have hon : (only la).length ≤ 60 := Nat.le_trans (only_len la) hn60
    have HON := Lib.hid (fun a (ha : a ∈ only la) => only_op ha)
    have HSM := Lib.hid (fun j => stK_small (Geo.mk r b t s o) hm0 hm1 (l := (only la).take j) (by rw [List.length_take]; omega))
    have HDD := Lib.hid (fun j => dead_acts (S := stK (Geo.mk r b t s o) l0 l1) ((only la).take j) (by simp [stK, upd]) (fun a ha => (HON.out a (List.mem_of_mem_take ha)).1))
    have HL := Lib.hid (fun a (ha : a ∈ only la) => (by obtain ⟨b, hb, rfl⟩ := (HON.out a ha).2.2; exact Nat.le_trans (h100 b hb) (by decide) : a.bs.length ≤ 140737488351232))
    clear hf0 hf1 bx h100
    go_enter Tryz.func3, Tryz.ntmps3
    go_wp2_with (first | (go_at_call 4; refine (awake14_any _).mono ?_; rintro e w' ⟨rfl, hb⟩; (first | ((first | have hB1 := below_of hb hB | have hB1 := below_of hb (Below.drew hB) | have hB1 := below_of hb (below_drw hB _)); clear hB hb hc hf hz; have hB := hB1; clear hB1; obtain ⟨hc, hf, hz⟩ := bcell hB) | ((first | have hB1 := below_of hb (below_alloc hB _) | have hB1 := below_of hb (below_alloc (below_alloc hB _) _) | have hB1 := below_of hb (below_alloc (below_alloc (below_alloc hB _) _) _) | have hB1 := below_of hb (below_alloc (below_alloc (below_alloc (below_alloc hB _) _) _) _) | have hB1 := below_of hb (below_alloc (below_alloc (below_alloc (below_alloc (below_alloc hB _) _) _) _) _) | have hB1 := below_of hb (Below.drew (below_alloc hB _)) | have hB1 := below_of hb (Below.drew (below_alloc (below_alloc hB _) _)) | have hB1 := below_of hb (Below.drew (below_alloc (below_alloc (below_alloc hB _) _) _)) | have hB1 := below_of hb (Below.drew (below_alloc (below_alloc (below_alloc (below_alloc hB _) _) _) _)) | have hB1 := below_of hb (Below.drew (below_alloc (below_alloc (below_alloc (below_alloc (below_alloc hB _) _) _) _) _)) | have hB1 := below_of hb (below_drw (below_alloc hB _) _) | have hB1 := below_of hb (below_drw (below_alloc (below_alloc hB _) _) _) | have hB1 := below_of hb (below_drw (below_alloc (below_alloc (below_alloc hB _) _) _) _) | have hB1 := below_of hb (below_drw (below_alloc (below_alloc (below_alloc (below_alloc hB _) _) _) _) _) | have hB1 := below_of hb (below_drw (below_alloc (below_alloc (below_alloc (below_alloc (below_alloc hB _) _) _) _) _) _)); clear hB hc hf hz; have hB := hB1; clear hB1; obtain ⟨hc, hf, hz⟩ := bcell hB; obtain ⟨hc_, hf_, hz_⟩ := bcell hb; clear hb) | (have hB := hb; clear hb; obtain ⟨hc, hf, hz⟩ := bcell hB))) | (go_at_call 5; refine (fair14_at (w0 := w) (by repeat (first | (with_reducible exact Below.refl _ _) | (with_reducible refine Below.drew ?_) | (with_reducible refine below_drw ?_ _) | (with_reducible refine below_alloc ?_ _) | (with_reducible refine below_set ?_ (by simp <;> omega) _) | (refine below_of (by assumption) ?_))) H0.out H1.out H2.out hl0 hl1 hla).mono ?_; rintro e w' ⟨rfl, hb⟩; rw [hfa]; (first | ((first | have hB1 := below_of hb hB | have hB1 := below_of hb (Below.drew hB) | have hB1 := below_of hb (below_drw hB _)); clear hB hb hc hf hz; have hB := hB1; clear hB1; obtain ⟨hc, hf, hz⟩ := bcell hB) | ((first | have hB1 := below_of hb (below_alloc hB _) | have hB1 := below_of hb (below_alloc (below_alloc hB _) _) | have hB1 := below_of hb (below_alloc (below_alloc (below_alloc hB _) _) _) | have hB1 := below_of hb (below_alloc (below_alloc (below_alloc (below_alloc hB _) _) _) _) | have hB1 := below_of hb (below_alloc (below_alloc (below_alloc (below_alloc (below_alloc hB _) _) _) _) _) | have hB1 := below_of hb (Below.drew (below_alloc hB _)) | have hB1 := below_of hb (Below.drew (below_alloc (below_alloc hB _) _)) | have hB1 := below_of hb (Below.drew (below_alloc (below_alloc (below_alloc hB _) _) _)) | have hB1 := below_of hb (Below.drew (below_alloc (below_alloc (below_alloc (below_alloc hB _) _) _) _)) | have hB1 := below_of hb (Below.drew (below_alloc (below_alloc (below_alloc (below_alloc (below_alloc hB _) _) _) _) _)) | have hB1 := below_of hb (below_drw (below_alloc hB _) _) | have hB1 := below_of hb (below_drw (below_alloc (below_alloc hB _) _) _) | have hB1 := below_of hb (below_drw (below_alloc (below_alloc (below_alloc hB _) _) _) _) | have hB1 := below_of hb (below_drw (below_alloc (below_alloc (below_alloc (below_alloc hB _) _) _) _) _) | have hB1 := below_of hb (below_drw (below_alloc (below_alloc (below_alloc (below_alloc (below_alloc hB _) _) _) _) _) _)); clear hB hc hf hz; have hB := hB1; clear hB1; obtain ⟨hc, hf, hz⟩ := bcell hB; obtain ⟨hc_, hf_, hz_⟩ := bcell hb; clear hb) | (have hB := hb; clear hb; obtain ⟨hc, hf, hz⟩ := bcell hB))) | (go_at_call 6; refine (start14_any r b t s o A0 l0 c0 A1 l1 c1 A2 la.length c2 _ hv HF0.out HF1.out (H0.out.below (by repeat (first | (with_reducible exact Below.refl _ _) | (with_reducible refine Below.drew ?_) | (with_reducible refine below_drw ?_ _) | (with_reducible refine below_alloc ?_ _) | (with_reducible refine below_set ?_ (by simp <;> omega) _) | (refine below_of (by assumption) ?_)))) (H1.out.below (by repeat (first | (with_reducible exact Below.refl _ _) | (with_reducible refine Below.drew ?_) | (with_reducible refine below_drw ?_ _) | (with_reducible refine below_alloc ?_ _) | (with_reducible refine below_set ?_ (by simp <;> omega) _) | (refine below_of (by assumption) ?_)))) hl0 hl1).mono ?_; rintro e w' ⟨pp, q, rfl, hT, hb⟩; have T := Lib.hid (hT.lower (B' := w.heap.size) (Below.size (B := w.heap.size) (by repeat (first | (with_reducible exact Below.refl _ _) | (with_reducible refine Below.drew ?_) | (with_reducible refine below_drw ?_ _) | (with_reducible refine below_alloc ?_ _) | (with_reducible refine below_set ?_ (by simp <;> omega) _) | (refine below_of (by assumption) ?_))))); clear hT; (first | ((first | have hB1 := below_of hb hB | have hB1 := below_of hb (Below.drew hB) | have hB1 := below_of hb (below_drw hB _)); clear hB hb hc hf hz; have hB := hB1; clear hB1; obtain ⟨hc, hf, hz⟩ := bcell hB) | ((first | have hB1 := below_of hb (below_alloc hB _) | have hB1 := below_of hb (below_alloc (below_alloc hB _) _) | have hB1 := below_of hb (below_alloc (below_alloc (below_alloc hB _) _) _) | have hB1 := below_of hb (below_alloc (below_alloc (below_alloc (below_alloc hB _) _) _) _) | have hB1 := below_of hb (below_alloc (below_alloc (below_alloc (below_alloc (below_alloc hB _) _) _) _) _) | have hB1 := below_of hb (Below.drew (below_alloc hB _)) | have hB1 := below_of hb (Below.drew (below_alloc (below_alloc hB _) _)) | have hB1 := below_of hb (Below.drew (below_alloc (below_alloc (below_alloc hB _) _) _)) | have hB1 := below_of hb (Below.drew (below_alloc (below_alloc (below_alloc (below_alloc hB _) _) _) _)) | have hB1 := below_of hb (Below.drew (below_alloc (below_alloc (below_alloc (below_alloc (below_alloc hB _) _) _) _) _)) | have hB1 := below_of hb (below_drw (below_alloc hB _) _) | have hB1 := below_of hb (below_drw (below_alloc (below_alloc hB _) _) _) | have hB1 := below_of hb (below_drw (below_alloc (below_alloc (below_alloc hB _) _) _) _) | have hB1 := below_of hb (below_drw (below_alloc (below_alloc (below_alloc (below_alloc hB _) _) _) _) _) | have hB1 := below_of hb (below_drw (below_alloc (below_alloc (below_alloc (below_alloc (below_alloc hB _) _) _) _) _) _)); clear hB hc hf hz; have hB := hB1; clear hB1; obtain ⟨hc, hf, hz⟩ := bcell hB; obtain ⟨hc_, hf_, hz_⟩ := bcell hb; clear hb) | (have hB := hb; clear hb; obtain ⟨hc, hf, hz⟩ := bcell hB))) | (go_at_call 7; have l0x : Lw w w'.heap.size (caseCells r b t s o (.slice A0 l0.length c0) (.slice A1 l1.length c1) (.slice A2 la.length c2)) pp q Pow.new (newSt (Geo.mk r b t s o) l0 l1) (w'.alloc (.cells (pairCells (at0 pp) (at0 (q false)) (at0 (q true))) 35)) := ⟨T.out.below ((Below.refl _ _).alloc (Nat.le_refl _) _), Row.new _ _ _, (BX.out.below hB).alloc _, below_alloc (show Below w.heap.size w w' from (by repeat (first | (with_reducible exact Below.refl _ _) | (with_reducible refine Below.drew ?_) | (with_reducible refine below_drw ?_ _) | (with_reducible refine below_alloc ?_ _) | (with_reducible refine below_set ?_ (by simp <;> omega) _) | (refine below_of (by assumption) ?_)))) _⟩; refine (begin14_any r b t s o A0 l0 c0 A1 l1 c1 A2 la.length c2 _ hv HF0.out HF1.out (H0.out.below l0x.bel) (H1.out.below l0x.bel) hl0 hl1).mono ?_; rintro e w2 ⟨rp, rq, rfl, hR, hb⟩; have l1x := l0x.below hb; have bl := (Below.refl w2.heap.size w2).alloc (Nat.le_refl _) (.cells (duoCells (at0 (rq false)) (at0 (rq true))) 40); have L1 := Lib.hid (l1x.below bl); have R1 := Lib.hid (show Rw w w2.heap.size rp rq Pow.new (newSt (Geo.mk r b t s o) l0 l1) _ from ⟨(hR.lower (B' := w.heap.size) l0x.bel.size).below bl, Row.new _ _ _⟩); have x1 := l1x.c1; have lx := l1x.lx; clear hB hc hf hz l0x l1x hR hb bl) | (go_at_call 8; refine (kill_two _ L1.out.two false).mono ?_; rintro e w3 ⟨rfl, hT, ⟨G, hF⟩, hb⟩; have l3 := L1.out.step hT hF hb; have r3 := R1.out.other hF; have u0 := r3.par.cell (i := 0) rfl; have ly := r3.par.lt; obtain ⟨u9, f9, lq⟩ := rkill_cells r3.two false; have L3 := Lib.hid l3; have R3 := Lib.hid r3; have y7 := (l3.other (rkill_two r3.two false).2.1.choose_spec (rkill_two r3.two false).2.2).box.cell (i := 7) rfl; have lc := l3.box.lt; clear l3 r3 hT hF hb) | (go_at_call 9; have k4 := rkill_two R3.out.two false; have l4 := L3.out.other k4.2.1.choose_spec k4.2.2; have r4 := R3.out.step k4.1 k4.2.1.choose_spec; refine (only14_any w.heap.size A2 la c2 _ l4.bel.size (H2.out.below l4.bel) (by omega)).mono ?_; rintro e w5 ⟨v3, rfl, hrow, hb3⟩; obtain ⟨A4, c4, rfl, hA⟩ := ActsAt.of hrow l4.bel.size; have HA := Lib.hid hA; have L5 := Lib.hid (l4.below hb3); have R5 := Lib.hid (r4.below hb3); clear hrow hb3 hA k4 l4 r4 u0 u9 f9 y7 lc))
    obtain ⟨S0, hS0⟩ : ∃ S0, stK (Geo.mk r b t s o) l0 l1 = S0 := ⟨_, rfl⟩
    have L6 := Lib.hid (show Lw w w'.heap.size (caseCells r b t s o (.slice A0 l0.length c0) (.slice A1 l1.length c1) (.slice A2 la.length c2)) pp q (S0.acts ((only la).take 0)).p (S0.acts ((only la).take 0)).d _ from by rw [← hS0]; exact L5.out)
    have R6 := Lib.hid (show Rw w w2.heap.size rp rq (S0.acts ((only la).take 0)).p (S0.acts ((only la).take 0)).d _ from by rw [← hS0]; exact R5.out)
    rw [hS0] at HSM HDD
    clear hS0 L5 R5 L3 R3 L1 R1 T x1 lx ly lq
    go_loopw [8] (fun i wr => ∃ j : Nat, j ≤ (only la).length ∧ i = .int .i64 j ∧ Lw w w'.heap.size (caseCells r b t s o (.slice A0 l0.length c0) (.slice A1 l1.length c1) (.slice A2 la.length c2)) pp q (S0.acts ((only la).take j)).p (S0.acts ((only la).take j)).d wr ∧ Rw w w2.heap.size rp rq (S0.acts ((only la).take j)).p (S0.acts ((only la).take j)).d wr ∧ ActsAt wr w.heap.size A4 (only la) j) (fun i _ => (only la).length - (intOf i).toNat)
    case atStart => exact ⟨0, Nat.zero_le _, rfl, L6.out, R6.out, HA.out⟩
    case round =>
      obtain ⟨j, hj, rfl, hL, hR, hA⟩ := hrel
      have sm := HSM.out j
      have sd := HDD.out j
      by_cases hjn : j < (only la).length
      · have ho : (only la)[j]? = some (only la)[j] := List.getElem?_eq_getElem hjn
        have htk : (only la).take (j + 1) = (only la).take j ++ [(only la)[j]] := List.take_succ_eq_append_getElem hjn
        have hmem : (only la)[j] ∈ only la := List.getElem_mem hjn
        generalize (only la)[j] = a at *
        have hsum : S0.acts ((only la).take (j + 1)) = (S0.acts ((only la).take j)).act a := by rw [htk, St.acts_snoc]
        generalize S0.acts ((only la).take j) = S at *
        obtain ⟨g, A', c', rfl, hgB, hgT, hgl, hcap, hby, hHA⟩ := acts_read hA ho hL.par
        have hop := (HON.out a hmem).1
        have h14 := (dead_act hop sd).2
        obtain ⟨O, hO⟩ : ∃ O, (S.d a.side).actO S.p a = O := ⟨_, rfl⟩
        obtain ⟨Bs, hBs⟩ : ∃ x, (⟨((S.d a.side).actB S.p a).toArray⟩ : ByteArray) = x := ⟨_, rfl⟩
        rw [hO] at h14
        have HO := Lib.hid hO
        have HBs := Lib.hid hBs
        have HAC := Lib.hid (show S.act a = ⟨O.p, upd S.d a.side O.d⟩ from by rw [← hO]; rfl)
        have LD := Lib.hid (hL.below (Below.refl _ _).drew)
        have RD := Lib.hid (hR.below (Below.refl _ _).drew)
        have AD := Lib.hid (hA.below hL.bel.size (Below.refl _ _).drew)
        have BD := Lib.hid (hby.below ((Below.refl wr.heap.size wr).drew.mono hL.bel.size))
        have HD := Lib.hid hHA.drew
        have GD := Lib.hid (show HasT wr.drew g 55 from hgT)
        have lx := hL.lx
        have SM := Lib.hid sm
        have HSU := Lib.hid hsum
        have HM := Lib.hid (HL.out a hmem)
        have HOP := Lib.hid hop
        have H14 := Lib.hid h14
        clear htk ho hmem hsum hby hHA hL hR hA sm sd hO hBs hop h14 hgT
        go_wp2_with fail
        go_region_held3 (fun W_ => W_.cell? ⟨w'.heap.size, 0, none⟩ = some (.pointer (at0 pp)) ∧ W_.cell? ⟨w'.heap.size, 1, none⟩ = some (.pointer (at0 (q false))) ∧ W_.cell? ⟨w'.heap.size, 2, none⟩ = some (.pointer (at0 (q true))) ∧ W_.cell? ⟨g, j * 6, none⟩ = some (.int .u8 (a.disk.toNat : Int)) ∧ W_.cell? ⟨g, j * 6 + 1, none⟩ = some (.int .u8 (a.kind.toNat : Int)) ∧ W_.cell? ⟨g, j * 6 + 2, none⟩ = some (.int .u64 a.key) ∧ W_.cell? ⟨g, j * 6 + 3, none⟩ = some (.int .i64 a.at_) ∧ W_.cell? ⟨g, j * 6 + 4, none⟩ = some (.slice A' a.bs.length c') ∧ W_.cell? ⟨g, j * 6 + 5, none⟩ = some (.bool a.force)) (first | exact HD.out | exact HS5.out) (first | (go_at_call 10; refine (do_two w.heap.size pp q S.p S.d a A' c' _ LD.out.two SM.out BD.out hcap HM.out).mono ?_; rintro e w8 ⟨rfl, hT5, ⟨G5, hF5⟩, hb5⟩; rw [HO.out] at hT5 ⊢; rw [HBs.out]; have hs5 := HD.out.frG hF5 LD.out.par.hasT GD.out (by decide); have HS5 := Lib.hid hs5; have A5 := Lib.hid (AD.out.frG hF5 hb5 (by decide)); have L8 := Lib.hid (LD.out.step hT5 hF5 hb5); have R8 := Lib.hid (RD.out.other hF5); have G8 := Lib.hid (show HasT w8 g 55 from GD.out.keep hF5 ((avoid_TG (Us := [55]) (by decide)).not GD.out (by simp))); have B8 := Lib.hid (BD.out.below hb5); clear hT5 hF5 hb5 hs5))
        all_goals (try go_wp2)
        have r9 := R8.out.below (Below.refl _ _).drew
        have l9 := L8.out.below (Below.refl _ _).drew
        have hs9 := HS5.out.drew
        have HW9 := Lib.hid (show HeldU w2.heap.size _ _ g (j * 6) _ _ _ _ _ _ w8.drew from ⟨r9.par.cell (i := 0) rfl, r9.par.cell (i := 1) rfl, hs9.2.2.2⟩)
        have R9 := Lib.hid r9
        have L9 := Lib.hid l9
        have A9 := Lib.hid (A5.out.below L8.out.bel.size (Below.refl _ _).drew)
        have B9 := Lib.hid (B8.out.below (((Below.refl _ _).drew : Below w8.heap.size w8 w8.drew).mono L8.out.bel.size))
        have G9 := Lib.hid (show HasT w8.drew g 55 from G8.out)
        have ly := R8.out.par.lt
        have lg := G8.out.lt
        clear r9 l9 hs9
        go_region_held3 (fun W_ => W_.cell? ⟨w2.heap.size, 0, none⟩ = some (.pointer (at0 (rq false))) ∧ W_.cell? ⟨w2.heap.size, 1, none⟩ = some (.pointer (at0 (rq true))) ∧ W_.cell? ⟨g, j * 6, none⟩ = some (.int .u8 (a.disk.toNat : Int)) ∧ W_.cell? ⟨g, j * 6 + 1, none⟩ = some (.int .u8 (a.kind.toNat : Int)) ∧ W_.cell? ⟨g, j * 6 + 2, none⟩ = some (.int .u64 a.key) ∧ W_.cell? ⟨g, j * 6 + 3, none⟩ = some (.int .i64 a.at_) ∧ W_.cell? ⟨g, j * 6 + 4, none⟩ = some (.slice A' a.bs.length c') ∧ W_.cell? ⟨g, j * 6 + 5, none⟩ = some (.bool a.force)) (first | exact HW9.out | exact HW10.out) (first | (go_at_call 11; refine (want_two w.heap.size rp rq S.p S.d (at0 rp) a A' c' _ (.inl HOP.out) R9.out.two SM.out B9.out hcap HM.out).mono ?_; rintro e w10 ⟨rfl, hT5, ⟨G5, hF5⟩, hb5⟩; rw [HO.out] at hT5 ⊢; rw [HBs.out]; have hw10 := HW9.out.frG hF5 R9.out.par.hasT G9.out; have x10 := hw10.2.2.1; have HW10 := Lib.hid hw10; have g10 := (show HasT w10 g 55 from G9.out.keep hF5 ((avoid_TG (Us := [55]) (by decide)).not G9.out (by simp))).lt; have A10 := Lib.hid (A9.out.frG hF5 hb5 (by decide)); have L10 := Lib.hid (L9.out.other hF5 hb5); have R10 := Lib.hid (R9.out.step hT5 hF5); clear hT5 hF5 hb5 hw10))
        all_goals (try go_wp2)
        all_goals (cases hsd : a.side with
          | false =>
            have hev := (side_even a).1 hsd
            have e14 : (O.e != 14) = false := by have := H14.out hsd; simpa using this
            have hev1 : ((a.disk.toNat : Int) % 2 == 0) = true := by simp; omega
            have hev2 : (a.disk.toNat : Int) % 2 = 0 := by omega
            clear hev hsd
            first
              | (exfalso; omega)
              | (exfalso; have hh : (O.e != 14) = true := (by assumption); rw [e14] at hh; cases hh)
              | (go_wp2_with fail
                 go_roundw
                 case rel => exact ⟨j + 1, by omega, by go_num, by rw [HSU.out, HAC.out]; exact L10.out, by rw [HSU.out, HAC.out]; exact R10.out, A10.out.later⟩
                 case measure => simp [intOf]; omega)
          | true =>
            have hev := mt (side_even a).2 (by rw [hsd]; decide)
            have hev1 : ((a.disk.toNat : Int) % 2 == 0) = false := by simp; omega
            have hev2 : (a.disk.toNat : Int) % 2 = 1 := by omega
            clear hev hsd
            first
              | (exfalso; omega)
              | (go_wp2_with fail
                 go_roundw
                 case rel => exact ⟨j + 1, by omega, by go_num, by rw [HSU.out, HAC.out]; exact L10.out, by rw [HSU.out, HAC.out]; exact R10.out, A10.out.later⟩
                 case measure => simp [intOf]; omega))
      · generalize S0.acts ((only la).take j) = S at *
        have x1 := hL.c1
        have x2 := hL.c2
        have lx := hL.lx
        have s1 := sm.ln true
        have u1 := hR.par.cell (i := 1) rfl
        have ly := hR.par.lt
        obtain ⟨G1, e1, _⟩ := hL.two.disk false
        have E1 := Lib.hid e1
        have LW := Lib.hid hL
        have RW := Lib.hid hR
        have SD := Lib.hid sd
        have AQ := Lib.hid (dead_acq sd)
        have RS := Lib.hid (dead_restart sd)
        have SM := Lib.hid sm
        clear hA hL hR e1 sd sm
        go_wp2_with (first | (go_at_call 12; refine (ddead_any _ E1.out).mono ?_; rintro e w8 ⟨rfl, rfl⟩; rw [SD.out]) | (go_at_call 13; refine (acquire_two _ LW.out.two false 1).mono ?_; rintro e w8 ⟨rfl, hT, ⟨G, hF⟩, hb⟩; rw [AQ.out] at hT ⊢; have l10 := LW.out.step (show Two w8 w.heap.size pp q S.p S.d from (upd_self S.d false) ▸ hT) hF hb; have x1 := l10.c1; have x2 := l10.c2; have lx := l10.lx; have L10 := Lib.hid l10; have R10 := Lib.hid (RW.out.other hF); clear l10 hT hF hb) | (go_at_call 14; refine (restart_two _ L10.out.two SM.out false 0).mono ?_; rintro e w9 ⟨rfl, hT, ⟨G, hF⟩, hb⟩; rw [RS.out] at hT ⊢; have l11 := L10.out.step (show Two w9 w.heap.size pp q S.p S.d from (upd_self S.d false) ▸ hT) hF hb; have r11 := R10.out.other hF; have x1 := l11.c1; have x2 := l11.c2; have lx := l11.lx; have u1 := r11.par.cell (i := 1) rfl; have ly := r11.par.lt; have L11 := Lib.hid l11; obtain ⟨G2, e2, _⟩ := l11.two.disk true; obtain ⟨G4, e4, _⟩ := r11.two.disk true; have E2 := Lib.hid e2; have E4 := Lib.hid e4; clear l11 r11 hT hF hb e2 e4) | (go_at_call 15; refine (same14_any G2 G4 (q true) pp (rq true) rp (S.d true) _ E2.out E4.out (by omega)).mono ?_; rintro e w12 ⟨rfl, hb⟩; have B12 := Lib.hid (below_of hb L11.out.bel); clear hb))
        all_goals go_ret
        all_goals exact ⟨rfl, B12.out⟩
end Go.Proofs.YtmloiifnadaaoaaGreat
