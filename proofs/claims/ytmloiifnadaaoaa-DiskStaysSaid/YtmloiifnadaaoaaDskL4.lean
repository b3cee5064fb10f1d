/- The law DiskStays. -/
import Derived.Test.YtmloiifnadaaoaaDskL3
namespace Go.Proofs.Ytmloiifnadaaoaa
open Go.RowKit
set_option linter.unusedVariables false
set_option linter.unusedSimpArgs false

/-- Under way in a law: the pair, the local variable that holds it, the case. -/
structure Lw (w : World) (nx : Nat) (cc : Array Value) (pp : Nat) (q : Bool → Nat) (P : Pow) (D : Bool → Dsk) (W : World) : Prop where
  two : Two W w.heap.size pp q P D
  par : Row 106 nx (pairCells (at0 pp) (at0 (q false)) (at0 (q true))) W
  box : Row 102 w.heap.size cc W
  bel : Below w.heap.size w W
namespace Lw
variable {w W W' : World} {nx : Nat} {cc : Array Value} {pp : Nat} {q : Bool → Nat} {P P' : Pow} {D D' : Bool → Dsk} {G : Nat → Prop} {Ts : List TypeId}
theorem step (h : Lw w nx cc pp q P D W) (hT : Two W' w.heap.size pp q P' D') (hF : FrG G diskTs W W') (hb : Below w.heap.size W W') : Lw w nx cc pp q P' D' W' :=
  ⟨hT, h.par.fr hF ((avoid_TG (Us := [106]) (by decide)).not h.par.hasT (by simp)), h.box.fr hF ((avoid_TG (Us := [102]) (by decide)).not h.box.hasT (by simp)), h.bel.trans hb⟩
theorem below (h : Lw w nx cc pp q P D W) (hb : Below W.heap.size W W') : Lw w nx cc pp q P D W' := ⟨h.two.below hb, h.par.below hb, h.box.below hb, below_of hb h.bel⟩
theorem act (h : Lw w nx cc pp q P D W) {g : Nat} (hg : HasT W g 113) (hB : w.heap.size ≤ g) (i : Nat) (v : Value) : Lw w nx cc pp q P D (W.setCell ⟨g, i, none⟩ v) :=
  ⟨h.two.act hg i v, h.par.other (hg.ne h.par.hasT (by decide)) i v, h.box.other (hg.ne h.box.hasT (by decide)) i v, below_set h.bel (p := ⟨g, i, none⟩) hB v⟩
theorem c0 (h : Lw w nx cc pp q P D W) : W.cell? ⟨nx, 0, none⟩ = some (.pointer (at0 pp)) := h.par.cell rfl
theorem c1 (h : Lw w nx cc pp q P D W) : W.cell? ⟨nx, 1, none⟩ = some (.pointer (at0 (q false))) := h.par.cell rfl
theorem c2 (h : Lw w nx cc pp q P D W) : W.cell? ⟨nx, 2, none⟩ = some (.pointer (at0 (q true))) := h.par.cell rfl
theorem lx (h : Lw w nx cc pp q P D W) : nx < W.heap.size := h.par.lt
end Lw
/-- A power supply's operation leaves the pair. -/
def PowTwo (B pp : Nat) (q : Bool → Nat) (P : Pow) (D : Bool → Dsk) (w : World) (e : Ending) (w' : World) : Prop :=
  e = .returned (.tuple #[]) ∧ Two w' B pp q P D ∧ (∃ G : Nat → Prop, FrG G diskTs w w') ∧ Below B w w'
section
variable {B pp : Nat} {q : Bool → Nat} {P : Pow} {D : Bool → Dsk}
theorem pow_two {P' : Pow} {n : Nat} {args : Array Value} {w : World} (h : Two w B pp q P D) (hc : ∀ G, IsPow w G pp P → Calls Try.prog n args w (fun e w' => e = .returned (.tuple #[]) ∧ IsPow w' G pp P' ∧ Fr (· = pp) w w')) : Calls Try.prog n args w (PowTwo B pp q P' D w) := by
  obtain ⟨F, T⟩ := h
  refine (hc (· = pp) T.pow).mono ?_
  rintro e w' ⟨rfl, hP, hF⟩
  have hG := frG_pow T.pow hF
  have hB := T.lt
  have hl := T.lp
  exact ⟨rfl, ⟨F, hP, fun i => (T.dsk i).keepA hF (avoid_one T.pow.hasP (by decide)), T.le, T.lp, T.np, T.apart⟩, ⟨_, hG⟩, hG.below hB (fun k hk => by have h9 : k = pp := hk; omega)⟩
theorem arm_two (w : World) (h : Two w B pp q P D) (n : Int) : Calls Try.prog 93 #[.pointer (some ⟨pp, 0, none⟩), .int .i64 n] w (PowTwo B pp q (P.arm n) D w) := pow_two h (fun G hp => darm_any n w hp)
theorem on_two (w : World) (h : Two w B pp q P D) : Calls Try.prog 97 #[.pointer (some ⟨pp, 0, none⟩)] w (PowTwo B pp q P.on D w) := pow_two h (fun G hp => don_any w hp)
theorem off_two (w : World) (h : Two w B pp q P D) : Calls Try.prog 95 #[.pointer (some ⟨pp, 0, none⟩)] w fun e w' => e = .returned (.bool P.off) ∧ w = w' := by
  obtain ⟨F, T⟩ := h
  exact doff_any w T.pow
end
/-- The ways of DiskStays. -/
def sP1 : Pow := ⟨false, true, 0, 0⟩
def sP2 : Pow := ⟨true, false, 0, 1⟩
def sP3 : Pow := ⟨false, false, 0, 1⟩
def sD (g : Geo) : Bool → Dsk := newSt g [] []
def sD3 (g : Geo) : Bool → Dsk := upd (sD g) true { sD g true with c := (sD g true).c.cut 0, seen := 1 }
theorem s_arm : Pow.new.arm 0 = sP1 := rfl
theorem s_call : sP1.call = sP2 := by
  show (⟨true, false, 0, inc 0⟩ : Pow) = ⟨true, false, 0, 1⟩
  rw [show inc 0 = 1 by decide +kernel]
theorem s_flush (g : Geo) : (sD g true).flushO sP1 0 = ⟨13, sD g true, sP2⟩ := by
  have hb : (sD g true).begin_ sP1 0 = ⟨sP2, sD g true, 13, ⟨0, 0, 0⟩⟩ := by rw [Dsk.begin_power rfl (by rw [s_call]; rfl), s_call]
  unfold Dsk.flushO
  rw [if_neg (by rw [hb]; show (13 : Int) ≠ 0; decide), hb]
theorem s_restart (g : Geo) : (sD g true).restartO sP2 0 = ⟨0, { sD g true with c := (sD g true).c.cut 0, seen := 1 }, sP2⟩ := rfl
theorem s_on : sP2.on = sP3 := rfl
theorem s_first (g : Geo) : sD3 g false = sD g false := upd_other _ (by decide) _
theorem s_state (g : Geo) : (sD3 g false).state sP3 = 13 := by rw [s_first]; exact Dsk.state_seen rfl (by show (0 : Int) ≠ 1; decide)
theorem s_act (g : Geo) {a : Act} (ha : a.op = true) : (sD3 g false).actO sP3 a = ⟨13, sD3 g false, sP3⟩ := by
  have hb := Dsk.begin_state (D := sD3 g false) (P := sP3) (by rw [s_state]; decide) a.key
  rw [s_state] at hb
  rw [Dsk.actO_stop ha (by rw [hb]; show (13 : Int) ≠ 0; decide), hb]
theorem s_acquire (g : Geo) : (sD3 g false).acqO sP3 1 = ⟨13, sD3 g false, sP3⟩ := by unfold Dsk.acqO; rw [s_state, if_neg (by decide)]
theorem s_again (g : Geo) : (sD3 g false).restartO sP3 0 = ⟨8, sD3 g false, sP3⟩ := by
  unfold Dsk.restartO
  rw [if_neg (by rw [s_first]; exact Bool.false_ne_true), if_pos (show sP3.off = false from rfl)]
theorem s_last (g : Geo) : ((sD3 g true).flushO sP3 0).e = 0 := by
  have hb : ((sD3 g true).begin_ sP3 0).e = 0 := by
    rw [Dsk.begin_go (by unfold sD3; rw [upd_same]; rfl) rfl (by unfold sD3; rw [upd_same]; rfl) (by unfold sD3; rw [upd_same]; show (0 : Int) ≠ 7; decide) (by unfold sD3; rw [upd_same]; show (0 : Int) ≠ 6; decide)]
  unfold Dsk.flushO
  rw [if_pos hb]
theorem s_count (g : Geo) (x : Dsk) : (upd (sD3 g) true x false).count = 0 := by rw [upd_other _ (by decide), s_first]; rfl
theorem s_small (g : Geo) : Small (sD g) ∧ Small (sD3 g) := by
  have h := small_new g [] [] (by decide) (by decide)
  exact ⟨h, Small.upd h (by show (0 : Nat) ≤ _; omega) (by show (0 : Nat) ≤ _; omega)⟩
set_option maxHeartbeats 8000000 in
set_option maxRecDepth 1000000 in
theorem law_DiskStays (r b t s o : Int) (A0 : Option Addr) (l0 : List Flt) (c0 : Nat) (A1 : Option Addr) (l1 : List Flt) (c1 : Nat) (A2 : Option Addr) (la : List Act) (c2 : Nat) (w : World) (h0 : FltsRd w A0 l0) (hl0 : l0.length * 24 ≤ 140737488351232) (h1 : FltsRd w A1 l1) (hl1 : l1.length * 24 ≤ 140737488351232) (h2 : ActsB w w.heap.size A2 la) (hla : la.length ≤ 140737488351232) :
    Calls Try.prog 23 #[.agg (caseCells r b t s o (.slice A0 l0.length c0) (.slice A1 l1.length c1) (.slice A2 la.length c2))] w fun e w' => e = .returned (.bool true) ∧ Below w.heap.size w w' := by
  have N0 := Lib.hid (show FltsRd w none [] from .inl rfl)
  have H2 := Lib.hid h2
  have z0 : ([] : List Flt).length * 24 ≤ 140737488351232 := by decide
  clear h0 h1 h2 hl0 hl1
  cases hfa : fair14 (Geo.mk r b t s o) [] [] la with
  | false =>
    go_enter Try.func23, Try.ntmps23
    go_wp2_with (first | (go_at_call 81; refine (awake14_any _).mono ?_; rintro e w' ⟨rfl, hb⟩; (first | ((first | have hB1 := below_of hb hB | have hB1 := below_of hb (Below.drew hB) | have hB1 := below_of hb (below_drw hB _)); clear hB hb hc hf hz; have hB := hB1; clear hB1; obtain ⟨hc, hf, hz⟩ := bcell hB) | ((first | have hB1 := below_of hb (below_alloc hB _) | have hB1 := below_of hb (below_alloc (below_alloc hB _) _) | have hB1 := below_of hb (below_alloc (below_alloc (below_alloc hB _) _) _) | have hB1 := below_of hb (below_alloc (below_alloc (below_alloc (below_alloc hB _) _) _) _) | have hB1 := below_of hb (below_alloc (below_alloc (below_alloc (below_alloc (below_alloc hB _) _) _) _) _) | have hB1 := below_of hb (Below.drew (below_alloc hB _)) | have hB1 := below_of hb (Below.drew (below_alloc (below_alloc hB _) _)) | have hB1 := below_of hb (Below.drew (below_alloc (below_alloc (below_alloc hB _) _) _)) | have hB1 := below_of hb (Below.drew (below_alloc (below_alloc (below_alloc (below_alloc hB _) _) _) _)) | have hB1 := below_of hb (Below.drew (below_alloc (below_alloc (below_alloc (below_alloc (below_alloc hB _) _) _) _) _)) | have hB1 := below_of hb (below_drw (below_alloc hB _) _) | have hB1 := below_of hb (below_drw (below_alloc (below_alloc hB _) _) _) | have hB1 := below_of hb (below_drw (below_alloc (below_alloc (below_alloc hB _) _) _) _) | have hB1 := below_of hb (below_drw (below_alloc (below_alloc (below_alloc (below_alloc hB _) _) _) _) _) | have hB1 := below_of hb (below_drw (below_alloc (below_alloc (below_alloc (below_alloc (below_alloc hB _) _) _) _) _) _)); clear hB hc hf hz; have hB := hB1; clear hB1; obtain ⟨hc, hf, hz⟩ := bcell hB; obtain ⟨hc_, hf_, hz_⟩ := bcell hb; clear hb) | (have hB := hb; clear hb; obtain ⟨hc, hf, hz⟩ := bcell hB))) | (go_at_call 91; refine (fair14_at (w0 := w) (l0 := []) (l1 := []) (by repeat (first | (with_reducible exact Below.refl _ _) | (with_reducible refine Below.drew ?_) | (with_reducible refine below_drw ?_ _) | (with_reducible refine below_alloc ?_ _) | (with_reducible refine below_set ?_ (by simp <;> omega) _) | (refine below_of (by assumption) ?_))) N0.out N0.out H2.out z0 z0 hla).mono ?_; rintro e w' ⟨rfl, hb⟩; rw [hfa]; (first | ((first | have hB1 := below_of hb hB | have hB1 := below_of hb (Below.drew hB) | have hB1 := below_of hb (below_drw hB _)); clear hB hb hc hf hz; have hB := hB1; clear hB1; obtain ⟨hc, hf, hz⟩ := bcell hB) | ((first | have hB1 := below_of hb (below_alloc hB _) | have hB1 := below_of hb (below_alloc (below_alloc hB _) _) | have hB1 := below_of hb (below_alloc (below_alloc (below_alloc hB _) _) _) | have hB1 := below_of hb (below_alloc (below_alloc (below_alloc (below_alloc hB _) _) _) _) | have hB1 := below_of hb (below_alloc (below_alloc (below_alloc (below_alloc (below_alloc hB _) _) _) _) _) | have hB1 := below_of hb (Below.drew (below_alloc hB _)) | have hB1 := below_of hb (Below.drew (below_alloc (below_alloc hB _) _)) | have hB1 := below_of hb (Below.drew (below_alloc (below_alloc (below_alloc hB _) _) _)) | have hB1 := below_of hb (Below.drew (below_alloc (below_alloc (below_alloc (below_alloc hB _) _) _) _)) | have hB1 := below_of hb (Below.drew (below_alloc (below_alloc (below_alloc (below_alloc (below_alloc hB _) _) _) _) _)) | have hB1 := below_of hb (below_drw (below_alloc hB _) _) | have hB1 := below_of hb (below_drw (below_alloc (below_alloc hB _) _) _) | have hB1 := below_of hb (below_drw (below_alloc (below_alloc (below_alloc hB _) _) _) _) | have hB1 := below_of hb (below_drw (below_alloc (below_alloc (below_alloc (below_alloc hB _) _) _) _) _) | have hB1 := below_of hb (below_drw (below_alloc (below_alloc (below_alloc (below_alloc (below_alloc hB _) _) _) _) _) _)); clear hB hc hf hz; have hB := hB1; clear hB1; obtain ⟨hc, hf, hz⟩ := bcell hB; obtain ⟨hc_, hf_, hz_⟩ := bcell hb; clear hb) | (have hB := hb; clear hb; obtain ⟨hc, hf, hz⟩ := bcell hB))))
    all_goals go_ret
    all_goals exact ⟨rfl, (by repeat (first | (with_reducible exact Below.refl _ _) | (with_reducible refine Below.drew ?_) | (with_reducible refine below_drw ?_ _) | (with_reducible refine below_alloc ?_ _) | (with_reducible refine below_set ?_ (by simp <;> omega) _) | (refine below_of (by assumption) ?_)))⟩
  | true =>
    obtain ⟨hv, _, hn60, _, _, h100, hf0, _⟩ := fair14_ok hfa
    obtain ⟨S1, S3⟩ := s_small (Geo.mk r b t s o)
    have HS := Lib.hid S1
    have HS3 := Lib.hid S3
    have HF0 := Lib.hid hf0
    have bx := Row.new w 102 (caseCells r b t s o (.slice none 0 0) (.slice none 0 0) (.slice A2 la.length c2))
    have BX := Lib.hid bx
    have hon : (only la).length ≤ 60 := Nat.le_trans (only_len la) hn60
    have HON := Lib.hid (fun a (ha : a ∈ only la) => only_op ha)
    have HX := Lib.hid (fun a (ha : a ∈ only la) => s_act (Geo.mk r b t s o) (a := a.first) (HON.out a ha).1)
    have HL := Lib.hid (fun a (ha : a ∈ only la) => (by obtain ⟨b, hb, rfl⟩ := (HON.out a ha).2.2; exact Nat.le_trans (h100 b hb) (by decide) : a.bs.length ≤ 140737488351232))
    obtain ⟨gg, hgg⟩ : ∃ gg, Geo.mk r b t s o = gg := ⟨_, rfl⟩
    have Hgg := Lib.hid hgg
    have FLU := Lib.hid (s_flush gg)
    have RES := Lib.hid (s_restart gg)
    have ACQ := Lib.hid (s_acquire gg)
    have AGN := Lib.hid (s_again gg)
    have LST := Lib.hid (s_last gg)
    have CNT := Lib.hid (s_count gg)
    rw [hgg] at HX HS HS3
    clear hf0 bx S1 S3 hgg
    go_enter Try.func23, Try.ntmps23
    go_wp2_with (first | (go_at_call 81; refine (awake14_any _).mono ?_; rintro e w' ⟨rfl, hb⟩; (first | ((first | have hB1 := below_of hb hB | have hB1 := below_of hb (Below.drew hB) | have hB1 := below_of hb (below_drw hB _)); clear hB hb hc hf hz; have hB := hB1; clear hB1; obtain ⟨hc, hf, hz⟩ := bcell hB) | ((first | have hB1 := below_of hb (below_alloc hB _) | have hB1 := below_of hb (below_alloc (below_alloc hB _) _) | have hB1 := below_of hb (below_alloc (below_alloc (below_alloc hB _) _) _) | have hB1 := below_of hb (below_alloc (below_alloc (below_alloc (below_alloc hB _) _) _) _) | have hB1 := below_of hb (below_alloc (below_alloc (below_alloc (below_alloc (below_alloc hB _) _) _) _) _) | have hB1 := below_of hb (Below.drew (below_alloc hB _)) | have hB1 := below_of hb (Below.drew (below_alloc (below_alloc hB _) _)) | have hB1 := below_of hb (Below.drew (below_alloc (below_alloc (below_alloc hB _) _) _)) | have hB1 := below_of hb (Below.drew (below_alloc (below_alloc (below_alloc (below_alloc hB _) _) _) _)) | have hB1 := below_of hb (Below.drew (below_alloc (below_alloc (below_alloc (below_alloc (below_alloc hB _) _) _) _) _)) | have hB1 := below_of hb (below_drw (below_alloc hB _) _) | have hB1 := below_of hb (below_drw (below_alloc (below_alloc hB _) _) _) | have hB1 := below_of hb (below_drw (below_alloc (below_alloc (below_alloc hB _) _) _) _) | have hB1 := below_of hb (below_drw (below_alloc (below_alloc (below_alloc (below_alloc hB _) _) _) _) _) | have hB1 := below_of hb (below_drw (below_alloc (below_alloc (below_alloc (below_alloc (below_alloc hB _) _) _) _) _) _)); clear hB hc hf hz; have hB := hB1; clear hB1; obtain ⟨hc, hf, hz⟩ := bcell hB; obtain ⟨hc_, hf_, hz_⟩ := bcell hb; clear hb) | (have hB := hb; clear hb; obtain ⟨hc, hf, hz⟩ := bcell hB))) | (go_at_call 91; refine (fair14_at (w0 := w) (l0 := []) (l1 := []) (by repeat (first | (with_reducible exact Below.refl _ _) | (with_reducible refine Below.drew ?_) | (with_reducible refine below_drw ?_ _) | (with_reducible refine below_alloc ?_ _) | (with_reducible refine below_set ?_ (by simp <;> omega) _) | (refine below_of (by assumption) ?_))) N0.out N0.out H2.out z0 z0 hla).mono ?_; rintro e w' ⟨rfl, hb⟩; rw [hfa]; (first | ((first | have hB1 := below_of hb hB | have hB1 := below_of hb (Below.drew hB) | have hB1 := below_of hb (below_drw hB _)); clear hB hb hc hf hz; have hB := hB1; clear hB1; obtain ⟨hc, hf, hz⟩ := bcell hB) | ((first | have hB1 := below_of hb (below_alloc hB _) | have hB1 := below_of hb (below_alloc (below_alloc hB _) _) | have hB1 := below_of hb (below_alloc (below_alloc (below_alloc hB _) _) _) | have hB1 := below_of hb (below_alloc (below_alloc (below_alloc (below_alloc hB _) _) _) _) | have hB1 := below_of hb (below_alloc (below_alloc (below_alloc (below_alloc (below_alloc hB _) _) _) _) _) | have hB1 := below_of hb (Below.drew (below_alloc hB _)) | have hB1 := below_of hb (Below.drew (below_alloc (below_alloc hB _) _)) | have hB1 := below_of hb (Below.drew (below_alloc (below_alloc (below_alloc hB _) _) _)) | have hB1 := below_of hb (Below.drew (below_alloc (below_alloc (below_alloc (below_alloc hB _) _) _) _)) | have hB1 := below_of hb (Below.drew (below_alloc (below_alloc (below_alloc (below_alloc (below_alloc hB _) _) _) _) _)) | have hB1 := below_of hb (below_drw (below_alloc hB _) _) | have hB1 := below_of hb (below_drw (below_alloc (below_alloc hB _) _) _) | have hB1 := below_of hb (below_drw (below_alloc (below_alloc (below_alloc hB _) _) _) _) | have hB1 := below_of hb (below_drw (below_alloc (below_alloc (below_alloc (below_alloc hB _) _) _) _) _) | have hB1 := below_of hb (below_drw (below_alloc (below_alloc (below_alloc (below_alloc (below_alloc hB _) _) _) _) _) _)); clear hB hc hf hz; have hB := hB1; clear hB1; obtain ⟨hc, hf, hz⟩ := bcell hB; obtain ⟨hc_, hf_, hz_⟩ := bcell hb; clear hb) | (have hB := hb; clear hb; obtain ⟨hc, hf, hz⟩ := bcell hB))) | (go_at_call 92; refine (start14_any r b t s o none [] 0 none [] 0 A2 la.length c2 _ hv HF0.out HF0.out (.inl rfl) (.inl rfl) z0 z0).mono ?_; rintro e w' ⟨pp, q, rfl, hT, hb⟩; rw [Hgg.out] at hT; have T := Lib.hid (show Two _ w.heap.size pp q Pow.new (sD gg) from hT.lower (B' := w.heap.size) (Below.size (B := w.heap.size) (by repeat (first | (with_reducible exact Below.refl _ _) | (with_reducible refine Below.drew ?_) | (with_reducible refine below_drw ?_ _) | (with_reducible refine below_alloc ?_ _) | (with_reducible refine below_set ?_ (by simp <;> omega) _) | (refine below_of (by assumption) ?_))))); clear hT; (first | ((first | have hB1 := below_of hb hB | have hB1 := below_of hb (Below.drew hB) | have hB1 := below_of hb (below_drw hB _)); clear hB hb hc hf hz; have hB := hB1; clear hB1; obtain ⟨hc, hf, hz⟩ := bcell hB) | ((first | have hB1 := below_of hb (below_alloc hB _) | have hB1 := below_of hb (below_alloc (below_alloc hB _) _) | have hB1 := below_of hb (below_alloc (below_alloc (below_alloc hB _) _) _) | have hB1 := below_of hb (below_alloc (below_alloc (below_alloc (below_alloc hB _) _) _) _) | have hB1 := below_of hb (below_alloc (below_alloc (below_alloc (below_alloc (below_alloc hB _) _) _) _) _) | have hB1 := below_of hb (Below.drew (below_alloc hB _)) | have hB1 := below_of hb (Below.drew (below_alloc (below_alloc hB _) _)) | have hB1 := below_of hb (Below.drew (below_alloc (below_alloc (below_alloc hB _) _) _)) | have hB1 := below_of hb (Below.drew (below_alloc (below_alloc (below_alloc (below_alloc hB _) _) _) _)) | have hB1 := below_of hb (Below.drew (below_alloc (below_alloc (below_alloc (below_alloc (below_alloc hB _) _) _) _) _)) | have hB1 := below_of hb (below_drw (below_alloc hB _) _) | have hB1 := below_of hb (below_drw (below_alloc (below_alloc hB _) _) _) | have hB1 := below_of hb (below_drw (below_alloc (below_alloc (below_alloc hB _) _) _) _) | have hB1 := below_of hb (below_drw (below_alloc (below_alloc (below_alloc (below_alloc hB _) _) _) _) _) | have hB1 := below_of hb (below_drw (below_alloc (below_alloc (below_alloc (below_alloc (below_alloc hB _) _) _) _) _) _)); clear hB hc hf hz; have hB := hB1; clear hB1; obtain ⟨hc, hf, hz⟩ := bcell hB; obtain ⟨hc_, hf_, hz_⟩ := bcell hb; clear hb) | (have hB := hb; clear hb; obtain ⟨hc, hf, hz⟩ := bcell hB))) | (go_at_call 93; have l0 : Lw w w'.heap.size (caseCells r b t s o (.slice none 0 0) (.slice none 0 0) (.slice A2 la.length c2)) pp q Pow.new (sD gg) (w'.alloc (.cells (pairCells (at0 pp) (at0 (q false)) (at0 (q true))) 106)) := ⟨T.out.below ((Below.refl _ _).alloc (Nat.le_refl _) _), Row.new _ _ _, (BX.out.below hB).alloc _, below_alloc (show Below w.heap.size w w' from (by repeat (first | (with_reducible exact Below.refl _ _) | (with_reducible refine Below.drew ?_) | (with_reducible refine below_drw ?_ _) | (with_reducible refine below_alloc ?_ _) | (with_reducible refine below_set ?_ (by simp <;> omega) _) | (refine below_of (by assumption) ?_)))) _⟩; refine (arm_two _ l0.two 0).mono ?_; rintro e w2 ⟨rfl, hT, ⟨G, hF⟩, hb⟩; rw [s_arm] at hT; have l1 := l0.step hT hF hb; have x0 := l1.c0; have x1 := l1.c1; have x2 := l1.c2; have lx := l1.lx; have L1 := Lib.hid l1; clear hB hc hf hz l0 l1 hT hF hb) | (go_at_call 94; refine (flush_two _ L1.out.two HS.out true 0).mono ?_; rintro e w3 ⟨rfl, hT, ⟨G, hF⟩, hb⟩; rw [FLU.out] at hT ⊢; have l2 := L1.out.step (show Two w3 w.heap.size pp q sP2 (sD gg) from (upd_self (sD gg) true) ▸ hT) hF hb; have x0 := l2.c0; have x1 := l2.c1; have x2 := l2.c2; have lx := l2.lx; have L2 := Lib.hid l2; clear l2 hT hF hb L1) | (go_at_call 95; refine (off_two _ L2.out.two).mono ?_; rintro e w4 ⟨rfl, rfl⟩) | (go_at_call 96; refine (restart_two _ L2.out.two HS.out true 0).mono ?_; rintro e w5 ⟨rfl, hT, ⟨G, hF⟩, hb⟩; rw [RES.out] at hT ⊢; have l3 := L2.out.step (show Two w5 w.heap.size pp q sP2 (sD3 gg) from hT) hF hb; have x0 := l3.c0; have x1 := l3.c1; have x2 := l3.c2; have lx := l3.lx; have L3 := Lib.hid l3; clear l3 hT hF hb L2) | (go_at_call 97; refine (on_two _ L3.out.two).mono ?_; rintro e w6 ⟨rfl, hT, ⟨G, hF⟩, hb⟩; rw [s_on] at hT; have l4 := L3.out.step hT hF hb; have x0 := l4.c0; have x1 := l4.c1; have x2 := l4.c2; have lx := l4.lx; have y7 := l4.box.cell (i := 7) rfl; have lc := l4.box.lt; have L4 := Lib.hid l4; clear l4 hT hF hb L3) | (go_at_call 98; refine (only14_any w.heap.size A2 la c2 _ L4.out.bel.size (H2.out.below L4.out.bel) (by omega)).mono ?_; rintro e w7 ⟨v3, rfl, hrow, hb3⟩; obtain ⟨A4, c4, rfl, hA⟩ := ActsAt.of hrow L4.out.bel.size; have HA := Lib.hid hA; have L5 := Lib.hid (L4.out.below hb3); clear hrow hb3 hA x0 x1 x2 lx y7 lc))
    go_loopw [6] (fun i wr => ∃ j : Nat, j ≤ (only la).length ∧ i = .int .i64 j ∧ Lw w w'.heap.size (caseCells r b t s o (.slice none 0 0) (.slice none 0 0) (.slice A2 la.length c2)) pp q sP3 (sD3 gg) wr ∧ ActsAt wr w.heap.size A4 (only la) j) (fun i _ => (only la).length - (intOf i).toNat)
    case atStart => exact ⟨0, Nat.zero_le _, rfl, L5.out, HA.out⟩
    case round =>
      obtain ⟨j, hj, rfl, hL, hA⟩ := hrel
      by_cases hjn : j < (only la).length
      · have ho : (only la)[j]? = some (only la)[j] := List.getElem?_eq_getElem hjn
        have hmem : (only la)[j] ∈ only la := List.getElem_mem hjn
        generalize (only la)[j] = a at *
        obtain ⟨g, A', c', rfl, hgB, hgT, hgx, hgl, hk0, hfz, hcap, hby, hHA⟩ := acts_first hA ho hL.par hL.bel.size
        have hA1 := hA.store rfl hL.bel.size
        have hL1 := hL.act hgT hgB (j * 6) (.int .u8 0)
        have hb1 := hby.below ((Below.refl w.heap.size wr).setCell (p := ⟨g, j * 6, none⟩) hgB (.int .u8 0))
        have hg1 := hgT.setCell ⟨g, j * 6, none⟩ (.int .u8 0)
        have dr := (Below.refl (wr.setCell ⟨g, j * 6, none⟩ (.int .u8 0)).heap.size (wr.setCell ⟨g, j * 6, none⟩ (.int .u8 0))).drew
        have LD := Lib.hid (hL1.below dr)
        have AD := Lib.hid (hA1.below hL1.bel.size dr)
        have BD := Lib.hid (hb1.below (dr.mono hL1.bel.size))
        have HD := Lib.hid hHA.drew
        have GD := Lib.hid (show HasT (wr.setCell ⟨g, j * 6, none⟩ (.int .u8 0)).drew g 113 from hg1)
        have Hm := Lib.hid hmem
        clear hA hL hA1 hL1 hb1 hg1 dr hby hHA hgT ho hmem
        go_wp2_with fail
        go_region_held3 (fun W_ => W_.cell? ⟨w'.heap.size, 0, none⟩ = some (.pointer (at0 pp)) ∧ W_.cell? ⟨w'.heap.size, 1, none⟩ = some (.pointer (at0 (q false))) ∧ W_.cell? ⟨w'.heap.size, 2, none⟩ = some (.pointer (at0 (q true))) ∧ W_.cell? ⟨g, j * 6, none⟩ = some (.int .u8 0) ∧ W_.cell? ⟨g, j * 6 + 1, none⟩ = some (.int .u8 (a.kind.toNat : Int)) ∧ W_.cell? ⟨g, j * 6 + 2, none⟩ = some (.int .u64 a.key) ∧ W_.cell? ⟨g, j * 6 + 3, none⟩ = some (.int .i64 a.at_) ∧ W_.cell? ⟨g, j * 6 + 4, none⟩ = some (.slice A' a.bs.length c') ∧ W_.cell? ⟨g, j * 6 + 5, none⟩ = some (.bool a.force)) (first | exact HD.out | exact HS5.out) (first | (go_at_call 99; refine (do_first _ a A' c' ⟨13, sD3 gg false, sP3⟩ (sD3 gg) (HX.out a Hm.out) (upd_self _ _) LD.out.two HS3.out BD.out hcap (HL.out a Hm.out)).mono ?_; rintro e w8 ⟨sx, rfl, hT5, ⟨G5, hF5⟩, hb5⟩; have HS5 := Lib.hid (HD.out.frG hF5 LD.out.par.hasT GD.out (by decide)); have A5 := Lib.hid (AD.out.frG hF5 hb5 (by decide)); have L8 := Lib.hid (LD.out.step hT5 hF5 hb5); clear hT5 hF5 hb5))
        all_goals (try go_wp2)
        all_goals go_roundw
        case rel => exact ⟨j + 1, by omega, by go_num, L8.out, A5.out⟩
        case measure => simp [intOf]; omega
      · have y1 := hL.c1
        have y2 := hL.c2
        have lx := hL.lx
        have L9 := Lib.hid hL
        clear hA hL
        go_wp2_with (first | (go_at_call 100; refine (acquire_two _ L9.out.two false 1).mono ?_; rintro e w8 ⟨rfl, hT, ⟨G, hF⟩, hb⟩; rw [ACQ.out] at hT ⊢; have l10 := L9.out.step (show Two w8 w.heap.size pp q sP3 (sD3 gg) from (upd_self (sD3 gg) false) ▸ hT) hF hb; have x1 := l10.c1; have x2 := l10.c2; have lx := l10.lx; have L10 := Lib.hid l10; clear l10 hT hF hb) | (go_at_call 96; refine (restart_two _ L10.out.two HS3.out false 0).mono ?_; rintro e w9 ⟨rfl, hT, ⟨G, hF⟩, hb⟩; rw [AGN.out] at hT ⊢; have l11 := L10.out.step (show Two w9 w.heap.size pp q sP3 (sD3 gg) from (upd_self (sD3 gg) false) ▸ hT) hF hb; have x1 := l11.c1; have x2 := l11.c2; have lx := l11.lx; have L11 := Lib.hid l11; clear l11 hT hF hb) | (go_at_call 94; refine (flush_two _ L11.out.two HS3.out true 0).mono ?_; rintro e w10 ⟨rfl, hT, ⟨G, hF⟩, hb⟩; rw [LST.out]; have l12 := L11.out.step hT hF hb; have x1 := l12.c1; have lx := l12.lx; have L12 := Lib.hid l12; obtain ⟨G9, hd9, _⟩ := hT.disk false; have D9 := Lib.hid hd9; clear l12 hT hF hb hd9) | (go_at_call 87; refine (dops_any _ D9.out).mono ?_; rintro e w11 ⟨rfl, rfl⟩; rw [CNT.out]))
        all_goals go_ret
        all_goals exact ⟨rfl, L12.out.bel⟩
end Go.Proofs.Ytmloiifnadaaoaa
