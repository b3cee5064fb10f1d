/- The law DiskActs. -/
import Derived.Test.YtmloiifnadaaoaaLawZ
import Derived.Test.YtmloiifnadaaoaaSameW
namespace Go.Proofs.Ytmloiifnadaaoaa
open Go.RowKit
set_option linter.unusedVariables false
set_option linter.unusedSimpArgs false

/-- Under way in a law: the reference's disks and the local variable that holds them. -/
structure Rw (w : World) (ny rp : Nat) (rq : Bool → Nat) (P : Pow) (D : Bool → Dsk) (W : World) : Prop where
  two : RTwo W w.heap.size rp rq P D
  par : Row 118 ny (duoCells (at0 (rq false)) (at0 (rq true))) W
namespace Rw
variable {w W W' : World} {ny rp : Nat} {rq : Bool → Nat} {P P' : Pow} {D D' : Bool → Dsk} {G : Nat → Prop}
theorem step (h : Rw w ny rp rq P D W) (hT : RTwo W' w.heap.size rp rq P' D') (hF : FrG G rdiskTs W W') : Rw w ny rp rq P' D' W' :=
  ⟨hT, h.par.fr hF ((avoid_TG (Us := [118]) (by decide)).not h.par.hasT (by simp))⟩
theorem other (h : Rw w ny rp rq P D W) (hF : FrG G diskTs W W') : Rw w ny rp rq P D W' :=
  ⟨h.two.frG hF, h.par.fr hF ((avoid_TG (Us := [118]) (by decide)).not h.par.hasT (by simp))⟩
theorem below (h : Rw w ny rp rq P D W) (hb : Below W.heap.size W W') : Rw w ny rp rq P D W' := ⟨h.two.below hb, h.par.below hb⟩
end Rw
theorem Lw.other {w W W' : World} {nx : Nat} {cc : Array Value} {pp : Nat} {q : Bool → Nat} {P : Pow} {D : Bool → Dsk} {G : Nat → Prop} (h : Lw w nx cc pp q P D W) (hF : FrG G rdiskTs W W') (hb : Below w.heap.size W W') : Lw w nx cc pp q P D W' :=
  ⟨h.two.frG hF, h.par.fr hF ((avoid_TG (Us := [106]) (by decide)).not h.par.hasT (by simp)), h.box.fr hF ((avoid_TG (Us := [102]) (by decide)).not h.box.hasT (by simp)), h.bel.trans hb⟩
/-- What a round reads: the pair's three cells, the case's last one, the act's six. -/
def HeldD (nx n0 : Nat) (p0 p1 p2 v7 : Value) (g k : Nat) (u0 u1 u2 u3 u4 u5 : Value) (W : World) : Prop :=
  W.cell? ⟨nx, 0, none⟩ = some p0 ∧ W.cell? ⟨nx, 1, none⟩ = some p1 ∧ W.cell? ⟨nx, 2, none⟩ = some p2 ∧ W.cell? ⟨n0, 7, none⟩ = some v7 ∧ W.cell? ⟨g, k, none⟩ = some u0 ∧ W.cell? ⟨g, k + 1, none⟩ = some u1 ∧ W.cell? ⟨g, k + 2, none⟩ = some u2 ∧ W.cell? ⟨g, k + 3, none⟩ = some u3 ∧ W.cell? ⟨g, k + 4, none⟩ = some u4 ∧ W.cell? ⟨g, k + 5, none⟩ = some u5
def HeldW (ny n0 : Nat) (p0 p1 v7 : Value) (g k : Nat) (u0 u1 u2 u3 u4 u5 : Value) (W : World) : Prop :=
  W.cell? ⟨ny, 0, none⟩ = some p0 ∧ W.cell? ⟨ny, 1, none⟩ = some p1 ∧ W.cell? ⟨n0, 7, none⟩ = some v7 ∧ W.cell? ⟨g, k, none⟩ = some u0 ∧ W.cell? ⟨g, k + 1, none⟩ = some u1 ∧ W.cell? ⟨g, k + 2, none⟩ = some u2 ∧ W.cell? ⟨g, k + 3, none⟩ = some u3 ∧ W.cell? ⟨g, k + 4, none⟩ = some u4 ∧ W.cell? ⟨g, k + 5, none⟩ = some u5
/-- An act that came in, found. -/
theorem act_at {w W : World} {A2 : Option Addr} {la : List Act} (h : ActsB w w.heap.size A2 la) (hb : Below w.heap.size w W) {j : Nat} {a : Act} (ha : la[j]? = some a) :
    ∃ g off A' c', A2 = some ⟨g, off, none⟩ ∧ g < w.heap.size ∧ a.bs.length ≤ c' ∧ ∀ W', Below w.heap.size W W' → BytesB W' w.heap.size A' a.bs ∧ W'.cell? ⟨g, off + j * 6, none⟩ = some (.int .u8 (a.disk.toNat : Int)) ∧ W'.cell? ⟨g, off + j * 6 + 1, none⟩ = some (.int .u8 (a.kind.toNat : Int)) ∧ W'.cell? ⟨g, off + j * 6 + 2, none⟩ = some (.int .u64 a.key) ∧ W'.cell? ⟨g, off + j * 6 + 3, none⟩ = some (.int .i64 a.at_) ∧ W'.cell? ⟨g, off + j * 6 + 4, none⟩ = some (.slice A' a.bs.length c') ∧ W'.cell? ⟨g, off + j * 6 + 5, none⟩ = some (.bool a.force) := by
  rcases h with h1 | ⟨g, off, h1, h2, h3⟩
  · rw [h1] at ha; simp at ha
  · obtain ⟨A', c', _, _, _, _, _, _, _, k7⟩ := h3 j a ha
    obtain ⟨A', c', k0, k1, k2, k3, k4, k5, k6, k7⟩ := h3 j a ha
    refine ⟨g, off, A', c', h1, h2, k7, fun W' hW => ?_⟩
    have e : ∀ o, W'.cell? ⟨g, o, none⟩ = w.cell? ⟨g, o, none⟩ := fun o => (hb.trans hW).cell (p := ⟨g, o, none⟩) h2
    exact ⟨k6.below (hb.trans hW), (e _).trans k0, (e _).trans k1, (e _).trans k2, (e _).trans k3, (e _).trans k4, (e _).trans k5⟩
def st0 (g : Geo) (l0 l1 : List Flt) : St := ⟨Pow.new, newSt g l0 l1⟩
theorem st0_small (g : Geo) {l0 l1 : List Flt} (h0 : l0.length ≤ 20) (h1 : l1.length ≤ 20) {l : List Act} (hl : l.length ≤ 60) : Small ((st0 g l0 l1).acts l).d := by
  constructor <;> intro i
  · rw [(St.acts_fl (st0 g l0 l1) l i).1]; cases i <;> simp [st0, newSt, Dsk.new] <;> omega
  · have := (St.acts_fl (st0 g l0 l1) l i).2
    have h2 : ((st0 g l0 l1).d i).c.l.length = 0 := rfl
    omega

set_option maxHeartbeats 16000000 in
set_option maxRecDepth 1000000 in
theorem law_DiskActs (r b t s o : Int) (A0 : Option Addr) (l0 : List Flt) (c0 : Nat) (A1 : Option Addr) (l1 : List Flt) (c1 : Nat) (A2 : Option Addr) (la : List Act) (c2 : Nat) (w : World) (h0 : FltsRd w A0 l0) (hl0 : l0.length * 24 ≤ 140737488351232) (h1 : FltsRd w A1 l1) (hl1 : l1.length * 24 ≤ 140737488351232) (h2 : ActsB w w.heap.size A2 la) (hla : la.length ≤ 140737488351232) :
    Calls Try.prog 26 #[.agg (caseCells r b t s o (.slice A0 l0.length c0) (.slice A1 l1.length c1) (.slice A2 la.length c2))] w fun e w' => e = .returned (.bool true) ∧ Below w.heap.size w w' := by
  have H0 := Lib.hid h0
  have H1 := Lib.hid h1
  have H2 := Lib.hid h2
  clear h0 h1 h2
  cases hfa : fair14 (Geo.mk r b t s o) l0 l1 la with
  | false =>
    go_enter Try.func26, Try.ntmps26
    go_wp2_with (first | (go_at_call 81; refine (awake14_any _).mono ?_; rintro e w' ⟨rfl, hb⟩; (first | ((first | have hB1 := below_of hb hB | have hB1 := below_of hb (Below.drew hB) | have hB1 := below_of hb (below_drw hB _)); clear hB hb hc hf hz; have hB := hB1; clear hB1; obtain ⟨hc, hf, hz⟩ := bcell hB) | ((first | have hB1 := below_of hb (below_alloc hB _) | have hB1 := below_of hb (below_alloc (below_alloc hB _) _) | have hB1 := below_of hb (below_alloc (below_alloc (below_alloc hB _) _) _) | have hB1 := below_of hb (below_alloc (below_alloc (below_alloc (below_alloc hB _) _) _) _) | have hB1 := below_of hb (below_alloc (below_alloc (below_alloc (below_alloc (below_alloc hB _) _) _) _) _) | have hB1 := below_of hb (Below.drew (below_alloc hB _)) | have hB1 := below_of hb (Below.drew (below_alloc (below_alloc hB _) _)) | have hB1 := below_of hb (Below.drew (below_alloc (below_alloc (below_alloc hB _) _) _)) | have hB1 := below_of hb (Below.drew (below_alloc (below_alloc (below_alloc (below_alloc hB _) _) _) _)) | have hB1 := below_of hb (Below.drew (below_alloc (below_alloc (below_alloc (below_alloc (below_alloc hB _) _) _) _) _)) | have hB1 := below_of hb (below_drw (below_alloc hB _) _) | have hB1 := below_of hb (below_drw (below_alloc (below_alloc hB _) _) _) | have hB1 := below_of hb (below_drw (below_alloc (below_alloc (below_alloc hB _) _) _) _) | have hB1 := below_of hb (below_drw (below_alloc (below_alloc (below_alloc (below_alloc hB _) _) _) _) _) | have hB1 := below_of hb (below_drw (below_alloc (below_alloc (below_alloc (below_alloc (below_alloc hB _) _) _) _) _) _)); clear hB hc hf hz; have hB := hB1; clear hB1; obtain ⟨hc, hf, hz⟩ := bcell hB; obtain ⟨hc_, hf_, hz_⟩ := bcell hb; clear hb) | (have hB := hb; clear hb; obtain ⟨hc, hf, hz⟩ := bcell hB))) | (go_at_call 91; refine (fair14_at (w0 := w) (by repeat (first | (with_reducible exact Below.refl _ _) | (with_reducible refine Below.drew ?_) | (with_reducible refine below_drw ?_ _) | (with_reducible refine below_alloc ?_ _) | (with_reducible refine below_set ?_ (by simp <;> omega) _) | (refine below_of (by assumption) ?_))) H0.out H1.out H2.out hl0 hl1 hla).mono ?_; rintro e w' ⟨rfl, hb⟩; rw [hfa]; (first | ((first | have hB1 := below_of hb hB | have hB1 := below_of hb (Below.drew hB) | have hB1 := below_of hb (below_drw hB _)); clear hB hb hc hf hz; have hB := hB1; clear hB1; obtain ⟨hc, hf, hz⟩ := bcell hB) | ((first | have hB1 := below_of hb (below_alloc hB _) | have hB1 := below_of hb (below_alloc (below_alloc hB _) _) | have hB1 := below_of hb (below_alloc (below_alloc (below_alloc hB _) _) _) | have hB1 := below_of hb (below_alloc (below_alloc (below_alloc (below_alloc hB _) _) _) _) | have hB1 := below_of hb (below_alloc (below_alloc (below_alloc (below_alloc (below_alloc hB _) _) _) _) _) | have hB1 := below_of hb (Below.drew (below_alloc hB _)) | have hB1 := below_of hb (Below.drew (below_alloc (below_alloc hB _) _)) | have hB1 := below_of hb (Below.drew (below_alloc (below_alloc (below_alloc hB _) _) _)) | have hB1 := below_of hb (Below.drew (below_alloc (below_alloc (below_alloc (below_alloc hB _) _) _) _)) | have hB1 := below_of hb (Below.drew (below_alloc (below_alloc (below_alloc (below_alloc (below_alloc hB _) _) _) _) _)) | have hB1 := below_of hb (below_drw (below_alloc hB _) _) | have hB1 := below_of hb (below_drw (below_alloc (below_alloc hB _) _) _) | have hB1 := below_of hb (below_drw (below_alloc (below_alloc (below_alloc hB _) _) _) _) | have hB1 := below_of hb (below_drw (below_alloc (below_alloc (below_alloc (below_alloc hB _) _) _) _) _) | have hB1 := below_of hb (below_drw (below_alloc (below_alloc (below_alloc (below_alloc (below_alloc hB _) _) _) _) _) _)); clear hB hc hf hz; have hB := hB1; clear hB1; obtain ⟨hc, hf, hz⟩ := bcell hB; obtain ⟨hc_, hf_, hz_⟩ := bcell hb; clear hb) | (have hB := hb; clear hb; obtain ⟨hc, hf, hz⟩ := bcell hB))))
    all_goals go_ret
    all_goals exact ⟨rfl, (by repeat (first | (with_reducible exact Below.refl _ _) | (with_reducible refine Below.drew ?_) | (with_reducible refine below_drw ?_ _) | (with_reducible refine below_alloc ?_ _) | (with_reducible refine below_set ?_ (by simp <;> omega) _) | (refine below_of (by assumption) ?_)))⟩
  | true =>
    obtain ⟨hv, _, hn60, hm0, hm1, h100, hf0, hf1⟩ := fair14_ok hfa
    have HF0 := Lib.hid hf0
    have HF1 := Lib.hid hf1
    have bx := Row.new w 102 (caseCells r b t s o (.slice A0 l0.length c0) (.slice A1 l1.length c1) (.slice A2 la.length c2))
    have BX := Lib.hid bx
    have HSM := Lib.hid (fun j => st0_small (Geo.mk r b t s o) hm0 hm1 (l := la.take j) (by rw [List.length_take]; omega))
    have HL := Lib.hid (fun a (ha : a ∈ la) => Nat.le_trans (h100 a ha) (show 100 ≤ 140737488351232 by decide))
    clear hf0 hf1 bx h100
    go_enter Try.func26, Try.ntmps26
    go_wp2_with (first | (go_at_call 81; refine (awake14_any _).mono ?_; rintro e w' ⟨rfl, hb⟩; (first | ((first | have hB1 := below_of hb hB | have hB1 := below_of hb (Below.drew hB) | have hB1 := below_of hb (below_drw hB _)); clear hB hb hc hf hz; have hB := hB1; clear hB1; obtain ⟨hc, hf, hz⟩ := bcell hB) | ((first | have hB1 := below_of hb (below_alloc hB _) | have hB1 := below_of hb (below_alloc (below_alloc hB _) _) | have hB1 := below_of hb (below_alloc (below_alloc (below_alloc hB _) _) _) | have hB1 := below_of hb (below_alloc (below_alloc (below_alloc (below_alloc hB _) _) _) _) | have hB1 := below_of hb (below_alloc (below_alloc (below_alloc (below_alloc (below_alloc hB _) _) _) _) _) | have hB1 := below_of hb (Below.drew (below_alloc hB _)) | have hB1 := below_of hb (Below.drew (below_alloc (below_alloc hB _) _)) | have hB1 := below_of hb (Below.drew (below_alloc (below_alloc (below_alloc hB _) _) _)) | have hB1 := below_of hb (Below.drew (below_alloc (below_alloc (below_alloc (below_alloc hB _) _) _) _)) | have hB1 := below_of hb (Below.drew (below_alloc (below_alloc (below_alloc (below_alloc (below_alloc hB _) _) _) _) _)) | have hB1 := below_of hb (below_drw (below_alloc hB _) _) | have hB1 := below_of hb (below_drw (below_alloc (below_alloc hB _) _) _) | have hB1 := below_of hb (below_drw (below_alloc (below_alloc (below_alloc hB _) _) _) _) | have hB1 := below_of hb (below_drw (below_alloc (below_alloc (below_alloc (below_alloc hB _) _) _) _) _) | have hB1 := below_of hb (below_drw (below_alloc (below_alloc (below_alloc (below_alloc (below_alloc hB _) _) _) _) _) _)); clear hB hc hf hz; have hB := hB1; clear hB1; obtain ⟨hc, hf, hz⟩ := bcell hB; obtain ⟨hc_, hf_, hz_⟩ := bcell hb; clear hb) | (have hB := hb; clear hb; obtain ⟨hc, hf, hz⟩ := bcell hB))) | (go_at_call 91; refine (fair14_at (w0 := w) (by repeat (first | (with_reducible exact Below.refl _ _) | (with_reducible refine Below.drew ?_) | (with_reducible refine below_drw ?_ _) | (with_reducible refine below_alloc ?_ _) | (with_reducible refine below_set ?_ (by simp <;> omega) _) | (refine below_of (by assumption) ?_))) H0.out H1.out H2.out hl0 hl1 hla).mono ?_; rintro e w' ⟨rfl, hb⟩; rw [hfa]; (first | ((first | have hB1 := below_of hb hB | have hB1 := below_of hb (Below.drew hB) | have hB1 := below_of hb (below_drw hB _)); clear hB hb hc hf hz; have hB := hB1; clear hB1; obtain ⟨hc, hf, hz⟩ := bcell hB) | ((first | have hB1 := below_of hb (below_alloc hB _) | have hB1 := below_of hb (below_alloc (below_alloc hB _) _) | have hB1 := below_of hb (below_alloc (below_alloc (below_alloc hB _) _) _) | have hB1 := below_of hb (below_alloc (below_alloc (below_alloc (below_alloc hB _) _) _) _) | have hB1 := below_of hb (below_alloc (below_alloc (below_alloc (below_alloc (below_alloc hB _) _) _) _) _) | have hB1 := below_of hb (Below.drew (below_alloc hB _)) | have hB1 := below_of hb (Below.drew (below_alloc (below_alloc hB _) _)) | have hB1 := below_of hb (Below.drew (below_alloc (below_alloc (below_alloc hB _) _) _)) | have hB1 := below_of hb (Below.drew (below_alloc (below_alloc (below_alloc (below_alloc hB _) _) _) _)) | have hB1 := below_of hb (Below.drew (below_alloc (below_alloc (below_alloc (below_alloc (below_alloc hB _) _) _) _) _)) | have hB1 := below_of hb (below_drw (below_alloc hB _) _) | have hB1 := below_of hb (below_drw (below_alloc (below_alloc hB _) _) _) | have hB1 := below_of hb (below_drw (below_alloc (below_alloc (below_alloc hB _) _) _) _) | have hB1 := below_of hb (below_drw (below_alloc (below_alloc (below_alloc (below_alloc hB _) _) _) _) _) | have hB1 := below_of hb (below_drw (below_alloc (below_alloc (below_alloc (below_alloc (below_alloc hB _) _) _) _) _) _)); clear hB hc hf hz; have hB := hB1; clear hB1; obtain ⟨hc, hf, hz⟩ := bcell hB; obtain ⟨hc_, hf_, hz_⟩ := bcell hb; clear hb) | (have hB := hb; clear hb; obtain ⟨hc, hf, hz⟩ := bcell hB))) | (go_at_call 92; refine (start14_any r b t s o A0 l0 c0 A1 l1 c1 A2 la.length c2 _ hv HF0.out HF1.out (H0.out.below (by repeat (first | (with_reducible exact Below.refl _ _) | (with_reducible refine Below.drew ?_) | (with_reducible refine below_drw ?_ _) | (with_reducible refine below_alloc ?_ _) | (with_reducible refine below_set ?_ (by simp <;> omega) _) | (refine below_of (by assumption) ?_)))) (H1.out.below (by repeat (first | (with_reducible exact Below.refl _ _) | (with_reducible refine Below.drew ?_) | (with_reducible refine below_drw ?_ _) | (with_reducible refine below_alloc ?_ _) | (with_reducible refine below_set ?_ (by simp <;> omega) _) | (refine below_of (by assumption) ?_)))) hl0 hl1).mono ?_; rintro e w' ⟨pp, q, rfl, hT, hb⟩; have T := Lib.hid (hT.lower (B' := w.heap.size) (Below.size (B := w.heap.size) (by repeat (first | (with_reducible exact Below.refl _ _) | (with_reducible refine Below.drew ?_) | (with_reducible refine below_drw ?_ _) | (with_reducible refine below_alloc ?_ _) | (with_reducible refine below_set ?_ (by simp <;> omega) _) | (refine below_of (by assumption) ?_))))); clear hT; (first | ((first | have hB1 := below_of hb hB | have hB1 := below_of hb (Below.drew hB) | have hB1 := below_of hb (below_drw hB _)); clear hB hb hc hf hz; have hB := hB1; clear hB1; obtain ⟨hc, hf, hz⟩ := bcell hB) | ((first | have hB1 := below_of hb (below_alloc hB _) | have hB1 := below_of hb (below_alloc (below_alloc hB _) _) | have hB1 := below_of hb (below_alloc (below_alloc (below_alloc hB _) _) _) | have hB1 := below_of hb (below_alloc (below_alloc (below_alloc (below_alloc hB _) _) _) _) | have hB1 := below_of hb (below_alloc (below_alloc (below_alloc (below_alloc (below_alloc hB _) _) _) _) _) | have hB1 := below_of hb (Below.drew (below_alloc hB _)) | have hB1 := below_of hb (Below.drew (below_alloc (below_alloc hB _) _)) | have hB1 := below_of hb (Below.drew (below_alloc (below_alloc (below_alloc hB _) _) _)) | have hB1 := below_of hb (Below.drew (below_alloc (below_alloc (below_alloc (below_alloc hB _) _) _) _)) | have hB1 := below_of hb (Below.drew (below_alloc (below_alloc (below_alloc (below_alloc (below_alloc hB _) _) _) _) _)) | have hB1 := below_of hb (below_drw (below_alloc hB _) _) | have hB1 := below_of hb (below_drw (below_alloc (below_alloc hB _) _) _) | have hB1 := below_of hb (below_drw (below_alloc (below_alloc (below_alloc hB _) _) _) _) | have hB1 := below_of hb (below_drw (below_alloc (below_alloc (below_alloc (below_alloc hB _) _) _) _) _) | have hB1 := below_of hb (below_drw (below_alloc (below_alloc (below_alloc (below_alloc (below_alloc hB _) _) _) _) _) _)); clear hB hc hf hz; have hB := hB1; clear hB1; obtain ⟨hc, hf, hz⟩ := bcell hB; obtain ⟨hc_, hf_, hz_⟩ := bcell hb; clear hb) | (have hB := hb; clear hb; obtain ⟨hc, hf, hz⟩ := bcell hB))) | (go_at_call 101; have l0x : Lw w w'.heap.size (caseCells r b t s o (.slice A0 l0.length c0) (.slice A1 l1.length c1) (.slice A2 la.length c2)) pp q Pow.new (newSt (Geo.mk r b t s o) l0 l1) (w'.alloc (.cells (pairCells (at0 pp) (at0 (q false)) (at0 (q true))) 106)) := ⟨T.out.below ((Below.refl _ _).alloc (Nat.le_refl _) _), Row.new _ _ _, (BX.out.below hB).alloc _, below_alloc (show Below w.heap.size w w' from (by repeat (first | (with_reducible exact Below.refl _ _) | (with_reducible refine Below.drew ?_) | (with_reducible refine below_drw ?_ _) | (with_reducible refine below_alloc ?_ _) | (with_reducible refine below_set ?_ (by simp <;> omega) _) | (refine below_of (by assumption) ?_)))) _⟩; refine (begin14_any r b t s o A0 l0 c0 A1 l1 c1 A2 la.length c2 _ hv HF0.out HF1.out (H0.out.below l0x.bel) (H1.out.below l0x.bel) hl0 hl1).mono ?_; rintro e w2 ⟨rp, rq, rfl, hR, hb⟩; have l1x := l0x.below hb; have L1 := Lib.hid l1x; have R1 := Lib.hid (hR.lower (B' := w.heap.size) l0x.bel.size); have y7 := l1x.box.cell (i := 7) rfl; have lc := l1x.box.lt; clear hB hc hf hz l0x l1x hR hb))
    have bl := (Below.refl w2.heap.size w2).alloc (Nat.le_refl _) (.cells (duoCells (at0 (rq false)) (at0 (rq true))) 118)
    have L2 := Lib.hid (L1.out.below bl)
    have R2 := Lib.hid (show Rw w w2.heap.size rp rq Pow.new (newSt (Geo.mk r b t s o) l0 l1) _ from ⟨R1.out.below bl, Row.new _ _ _⟩)
    clear bl
    obtain ⟨S0, hS0⟩ : ∃ S0, st0 (Geo.mk r b t s o) l0 l1 = S0 := ⟨_, rfl⟩
    have L3 := Lib.hid (show Lw w w'.heap.size (caseCells r b t s o (.slice A0 l0.length c0) (.slice A1 l1.length c1) (.slice A2 la.length c2)) pp q (S0.acts (la.take 0)).p (S0.acts (la.take 0)).d _ from by rw [← hS0]; exact L2.out)
    have R3 := Lib.hid (show Rw w w2.heap.size rp rq (S0.acts (la.take 0)).p (S0.acts (la.take 0)).d _ from by rw [← hS0]; exact R2.out)
    rw [hS0] at HSM
    clear hS0 L2 R2 L1 R1 y7 lc
    go_loopw [7] (fun i wr => ∃ j : Nat, j ≤ la.length ∧ i = .int .i64 j ∧ Lw w w'.heap.size (caseCells r b t s o (.slice A0 l0.length c0) (.slice A1 l1.length c1) (.slice A2 la.length c2)) pp q (S0.acts (la.take j)).p (S0.acts (la.take j)).d wr ∧ Rw w w2.heap.size rp rq (S0.acts (la.take j)).p (S0.acts (la.take j)).d wr) (fun i _ => la.length - (intOf i).toNat)
    case atStart => exact ⟨0, Nat.zero_le _, rfl, L3.out, R3.out⟩
    case round =>
      obtain ⟨j, hj, rfl, hL, hR⟩ := hrel
      have sm := HSM.out j
      by_cases hjn : j < la.length
      · have ho : la[j]? = some la[j] := List.getElem?_eq_getElem hjn
        have htk : la.take (j + 1) = la.take j ++ [la[j]] := List.take_succ_eq_append_getElem hjn
        have hmem : la[j] ∈ la := List.getElem_mem hjn
        generalize la[j] = a at *
        have hsum : S0.acts (la.take (j + 1)) = (S0.acts (la.take j)).act a := by rw [htk, St.acts_snoc]
        generalize S0.acts (la.take j) = S at *
        obtain ⟨g, off, A', c', rfl, hg, hcap, hAA⟩ := act_at H2.out hL.bel ho
        have y7 := hL.box.cell (i := 7) rfl
        have lc := hL.box.lt
        have lx := hL.lx
        have ly := hR.par.lt
        obtain ⟨hby, k0, k1, k2, k3, k4, k5⟩ := hAA wr.drew (Below.refl _ _).drew
        have HH := Lib.hid (show HeldD w'.heap.size w.heap.size _ _ _ _ g (off + j * 6) _ _ _ _ _ _ wr.drew from ⟨hL.c0, hL.c1, hL.c2, y7, k0, k1, k2, k3, k4, k5⟩)
        have BY := Lib.hid hby
        have HAA := Lib.hid hAA
        have LD := Lib.hid (hL.below (Below.refl _ _).drew)
        have RD := Lib.hid (hR.below (Below.refl _ _).drew)
        have SM := Lib.hid sm
        have HSU := Lib.hid hsum
        have HM := Lib.hid (HL.out a hmem)
        obtain ⟨O, hO⟩ : ∃ O, (S.d a.side).actO S.p a = O := ⟨_, rfl⟩
        obtain ⟨Bs, hBs⟩ : ∃ x, (⟨((S.d a.side).actB S.p a).toArray⟩ : ByteArray) = x := ⟨_, rfl⟩
        have HO := Lib.hid hO
        have HBs := Lib.hid hBs
        have HAC := Lib.hid (show S.act a = ⟨O.p, upd S.d a.side O.d⟩ from by rw [← hO]; rfl)
        clear htk ho hmem hsum hby hAA hL hR sm k0 k1 k2 k3 k4 k5 hO hBs
        go_wp2_with fail
        go_region_held3 (fun W_ => W_.cell? ⟨w'.heap.size, 0, none⟩ = some (.pointer (at0 pp)) ∧ W_.cell? ⟨w'.heap.size, 1, none⟩ = some (.pointer (at0 (q false))) ∧ W_.cell? ⟨w'.heap.size, 2, none⟩ = some (.pointer (at0 (q true))) ∧ W_.cell? ⟨w.heap.size, 7, none⟩ = some (.slice (some ⟨g, off, none⟩) la.length c2) ∧ W_.cell? ⟨g, off + j * 6, none⟩ = some (.int .u8 (a.disk.toNat : Int)) ∧ W_.cell? ⟨g, off + j * 6 + 1, none⟩ = some (.int .u8 (a.kind.toNat : Int)) ∧ W_.cell? ⟨g, off + j * 6 + 2, none⟩ = some (.int .u64 a.key) ∧ W_.cell? ⟨g, off + j * 6 + 3, none⟩ = some (.int .i64 a.at_) ∧ W_.cell? ⟨g, off + j * 6 + 4, none⟩ = some (.slice A' a.bs.length c') ∧ W_.cell? ⟨g, off + j * 6 + 5, none⟩ = some (.bool a.force)) (first | exact HH.out | exact HH5.out) (first | (go_at_call 99; refine (do_two w.heap.size pp q S.p S.d a A' c' _ LD.out.two SM.out BY.out hcap HM.out).mono ?_; rintro e w5 ⟨rfl, hT, ⟨G, hF⟩, hb⟩; rw [HO.out] at hT ⊢; rw [HBs.out]; have hb5 : Below w.heap.size wr w5 := ((Below.refl w.heap.size wr).drew).trans hb; have l5 := LD.out.step hT hF hb; obtain ⟨_, x0, x1, x2, x3, x4, x5⟩ := HAA.out w5 hb5; have HH5 := Lib.hid (show HeldD w'.heap.size w.heap.size _ _ _ _ g (off + j * 6) _ _ _ _ _ _ w5 from ⟨l5.c0, l5.c1, l5.c2, l5.box.cell (i := 7) rfl, x0, x1, x2, x3, x4, x5⟩); have L5 := Lib.hid l5; have R5 := Lib.hid (RD.out.other hF); have B5 := Lib.hid hb5; clear hT hF hb hb5 l5 x0 x1 x2 x3 x4 x5))
        all_goals (try go_wp2)
        have r6 := R5.out.below (Below.refl _ _).drew
        have l6 := L5.out.below (Below.refl _ _).drew
        obtain ⟨hby6, k0, k1, k2, k3, k4, k5⟩ := HAA.out w5.drew B5.out.drew
        have BY6 := Lib.hid hby6
        have HW := Lib.hid (show HeldW w2.heap.size w.heap.size _ _ _ g (off + j * 6) _ _ _ _ _ _ w5.drew from ⟨r6.par.cell (i := 0) rfl, r6.par.cell (i := 1) rfl, l6.box.cell (i := 7) rfl, k0, k1, k2, k3, k4, k5⟩)
        have ly := R5.out.par.lt
        have lc := L5.out.box.lt
        have lx := L5.out.lx
        have R6 := Lib.hid r6
        have L6 := Lib.hid l6
        clear r6 l6 hby6 k0 k1 k2 k3 k4 k5
        go_region_held3 (fun W_ => W_.cell? ⟨w2.heap.size, 0, none⟩ = some (.pointer (at0 (rq false))) ∧ W_.cell? ⟨w2.heap.size, 1, none⟩ = some (.pointer (at0 (rq true))) ∧ W_.cell? ⟨w.heap.size, 7, none⟩ = some (.slice (some ⟨g, off, none⟩) la.length c2) ∧ W_.cell? ⟨g, off + j * 6, none⟩ = some (.int .u8 (a.disk.toNat : Int)) ∧ W_.cell? ⟨g, off + j * 6 + 1, none⟩ = some (.int .u8 (a.kind.toNat : Int)) ∧ W_.cell? ⟨g, off + j * 6 + 2, none⟩ = some (.int .u64 a.key) ∧ W_.cell? ⟨g, off + j * 6 + 3, none⟩ = some (.int .i64 a.at_) ∧ W_.cell? ⟨g, off + j * 6 + 4, none⟩ = some (.slice A' a.bs.length c') ∧ W_.cell? ⟨g, off + j * 6 + 5, none⟩ = some (.bool a.force)) (first | exact HW.out | exact HW7.out) (first | (go_at_call 102; refine (want_two w.heap.size rp rq S.p S.d (at0 rp) a A' c' _ (.inr rfl) R6.out.two SM.out BY6.out hcap HM.out).mono ?_; rintro e w7 ⟨rfl, hT, ⟨G, hF⟩, hb⟩; rw [HO.out] at hT ⊢; rw [HBs.out]; have hb7 : Below w.heap.size wr w7 := B5.out.drew.trans hb; have l7 := L6.out.other hF hb; have r7 := R6.out.step hT hF; obtain ⟨_, x0, x1, x2, x3, x4, x5⟩ := HAA.out w7 hb7; have HW7 := Lib.hid (show HeldW w2.heap.size w.heap.size _ _ _ g (off + j * 6) _ _ _ _ _ _ w7 from ⟨r7.par.cell (i := 0) rfl, r7.par.cell (i := 1) rfl, l7.box.cell (i := 7) rfl, x0, x1, x2, x3, x4, x5⟩); have L7 := Lib.hid l7; have R7 := Lib.hid r7; clear hT hF hb hb7 l7 r7 x0 x1 x2 x3 x4 x5))
        all_goals (try go_wp2)
        have y0 := L7.out.c0
        have lx7 := L7.out.lx
        have z0 : ∃ z, w7.cell? ⟨rp, 0, none⟩ = some (.bool z) ∧ z = O.p.off ∧ rp < w7.heap.size := by
          obtain ⟨F9, T9⟩ := R7.out.two
          obtain ⟨_, z0, _, _, _, _, zl, _⟩ := T9.pow.cells
          exact ⟨_, z0, rfl, zl⟩
        obtain ⟨z, z0, hz, zl⟩ := z0
        have HZ := Lib.hid hz
        have T7 := Lib.hid (L7.out.two.below (Below.refl _ _).drew)
        clear hz
        go_region_held3 (fun W_ => (∀ b_ o_, b_ < (w7).heap.size → W_.cell? ⟨b_, o_, none⟩ = (w7).cell? ⟨b_, o_, none⟩) ∧ (∀ b_ o_, b_ < (w7).heap.size → W_.frozen? ⟨b_, o_, none⟩ = (w7).frozen? ⟨b_, o_, none⟩) ∧ (∀ k_, k_ < (w7).heap.size → k_ < W_.heap.size) ∧ Below (w7).heap.size (w7) W_) (first | exact held_start _ | assumption | exact held_keep (by assumption) (by assumption) | exact held_keep (by assumption) ((Below.refl _ _).alloc (Nat.le_refl _) _) | exact held_of (by assumption)) (first | (go_at_call 95; refine (off_two _ T7.out).mono ?_; rintro e w8 ⟨rfl, rfl⟩; rw [← HZ.out]))
        all_goals (try go_wp2)
        all_goals go_roundw
        case rel => exact ⟨j + 1, by omega, by go_num, by rw [HSU.out, HAC.out]; exact L7.out.below (by first | exact Below.refl _ _ | exact (Below.refl _ _).drew), by rw [HSU.out, HAC.out]; exact R7.out.below (by first | exact Below.refl _ _ | exact (Below.refl _ _).drew)⟩
        case measure => simp [intOf]; omega
      · have htk : la.take j = la := List.take_of_length_le (by omega)
        rw [htk] at hL hR sm
        generalize S0.acts la = S at *
        have y1 := hL.c1
        have y2 := hL.c2
        have y7 := hL.box.cell (i := 7) rfl
        have lc := hL.box.lt
        have lx := hL.lx
        have ly := hR.par.lt
        have u0 := hR.par.cell (i := 0) rfl
        have u1 := hR.par.cell (i := 1) rfl
        have LW := Lib.hid hL
        have RW := Lib.hid hR
        have s0 := sm.ln false
        have s1 := sm.ln true
        obtain ⟨G1, e1, _⟩ := hL.two.disk false
        obtain ⟨G2, e2, _⟩ := hL.two.disk true
        obtain ⟨G3, e3, _⟩ := hR.two.disk false
        obtain ⟨G4, e4, _⟩ := hR.two.disk true
        have E1 := Lib.hid e1
        have E2 := Lib.hid e2
        have E3 := Lib.hid e3
        have E4 := Lib.hid e4
        clear hL hR sm htk e1 e2 e3 e4
        go_wp2_with (first | (go_at_call 106; refine (same14_any G1 G3 (q false) pp (rq false) rp (S.d false) _ E1.out E3.out (by omega)).mono ?_; rintro e w8 ⟨rfl, hb⟩; have y2' := cell_later hb y2; have u1' := cell_later hb u1; have lx' := Nat.lt_of_lt_of_le lx hb.size; have ly' := Nat.lt_of_lt_of_le ly hb.size; have F2 := Lib.hid (E2.out.below hb); have F4 := Lib.hid (E4.out.below hb); have B8 := Lib.hid (below_of hb LW.out.bel); clear hb E1 E3) | (go_at_call 106; refine (same14_any G2 G4 (q true) pp (rq true) rp (S.d true) _ F2.out F4.out (by omega)).mono ?_; rintro e w9 ⟨rfl, hb⟩; have B9 := Lib.hid (below_of hb B8.out); clear hb))
        all_goals go_ret
        all_goals exact ⟨rfl, B9.out⟩
end Go.Proofs.Ytmloiifnadaaoaa
