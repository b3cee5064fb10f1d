/- The walks of package disk: Read. -/
import Derived.Test.YtmloiifnadaaoaaGreatDskC
import Derived.Test.YtmloiifnadaaoaaGreatDskVa
namespace Go.Proofs.YtmloiifnadaaoaaGreat
open Go.RowKit
set_option linter.unusedVariables false
set_option linter.unusedSimpArgs false

def Dsk.readO (D : Dsk) (P : Pow) (key a : Int) : Out := if (D.begin_ P key).e = 0 then ⟨(D.begin_ P key).d.readE (D.begin_ P key).f a, (D.begin_ P key).d.readD (D.begin_ P key).f a, (D.begin_ P key).p⟩ else ⟨(D.begin_ P key).e, (D.begin_ P key).d, (D.begin_ P key).p⟩
def Dsk.readBs (D : Dsk) (P : Pow) (key a : Int) : List UInt8 := if (D.begin_ P key).e = 0 then (D.begin_ P key).d.readB (D.begin_ P key).f a else []

section
variable {G : Nat → Prop} {pd pp : Nat} {D : Dsk} {P : Pow}
/-- What a read turns: what an operation turns, and the variable of the result. -/
def SR (G : Nat → Prop) (b2 : Nat) (w : World) (k : Nat) : Prop := TG G diskTs w k ∨ k = b2
theorem read_end {w w3 : World} {pc b2 : Nat} {A A2 : Option Addr} {c c2 : Nat} {bs : List UInt8} (hB : Below w.heap.size w w3) (h3 : DiskAt w3 G pd pp pc A c D) (hp : IsPow w3 G pp P) (hb2 : w3.heap[b2]? = some (.cells #[.slice none 0 0] 53 (0, 0))) (hn : ¬ G b2) (hbt : BytesT w3 A2 bs) :
    IsDisk ((w3.setCell ⟨b2, 0, none⟩ (.slice A2 bs.length c2)).setCell ⟨pd, 0, none⟩ (.int .i64 (inc D.s0))) G pd pp { D with s0 := inc D.s0 } ∧ IsPow ((w3.setCell ⟨b2, 0, none⟩ (.slice A2 bs.length c2)).setCell ⟨pd, 0, none⟩ (.int .i64 (inc D.s0))) G pp P ∧
    (∃ A' c', ((w3.setCell ⟨b2, 0, none⟩ (.slice A2 bs.length c2)).setCell ⟨pd, 0, none⟩ (.int .i64 (inc D.s0))).cell? ⟨b2, 0, none⟩ = some (.slice A' bs.length c') ∧ BytesT ((w3.setCell ⟨b2, 0, none⟩ (.slice A2 bs.length c2)).setCell ⟨pd, 0, none⟩ (.int .i64 (inc D.s0))) A' bs) ∧
    Fr (SR G b2 w) w ((w3.setCell ⟨b2, 0, none⟩ (.slice A2 bs.length c2)).setCell ⟨pd, 0, none⟩ (.int .i64 (inc D.s0))) := by
  have T2 : HasT w3 b2 53 := ⟨_, _, hb2⟩
  have F2 := fr_one w3 b2 0 (.slice A2 bs.length c2)
  have h4 := h3.keepX F2 T2 hn
  have p4 : IsPow (w3.setCell ⟨b2, 0, none⟩ (.slice A2 bs.length c2)) G pp P := hp.keepA F2 (avoid_one T2 (by decide))
  obtain ⟨g1, g2⟩ := h4.store (D' := { D with s0 := inc D.s0 }) (i := 0) (v := .int .i64 (inc D.s0)) rfl rfl rfl rfl
  have F5 := fr_one (w3.setCell ⟨b2, 0, none⟩ (.slice A2 bs.length c2)) pd 0 (.int .i64 (inc D.s0))
  have hne : b2 ≠ pd := T2.ne h3.hasD (by decide)
  have x1 := head_set hb2 0 (.slice A2 bs.length c2)
  refine ⟨⟨pc, A, c, g1⟩, p4.setD h4.hasD 0 _, ⟨A2, c2, F5.cell (by rw [cell_of_row _ _ _ _ _ _ x1]; rfl) hne, (hbt.keep F2 (fun k hk hh => by subst hk; exact T2.ne hh (by decide) rfl)).keep F5 (fun k hk hh => by subst hk; exact h4.hasD.ne hh (by decide) rfl)⟩, ?_⟩
  have Fa : Fr (SR G b2 w) w w3 := Fr.ofBelow hB _
  have Fb : Fr (SR G b2 w) w (w3.setCell ⟨b2, 0, none⟩ (.slice A2 bs.length c2)) := Fa.transW F2 (fun i _ e => .inr e)
  refine Fb.transW g2 ?_
  rintro i hi ⟨hGi, T, hT, hh⟩
  by_cases e : i = b2
  · exact .inr e
  · refine .inl ⟨hGi, T, hT, ?_⟩
    have k1 : HasT w3 i T := hh.back F2 (by have := hB.size; omega) e
    exact k1.back (Fr.ofBelow hB (fun _ => False)) hi id
/-- A read that gave nothing. -/
theorem read_none {w w3 : World} {b2 : Nat} (hB : Below w.heap.size w w3) (h : IsDisk w G pd pp D) (hp : IsPow w G pp P) (hb2 : w.heap[b2]? = some (.cells #[.slice none 0 0] 53 (0, 0))) :
    IsDisk w3 G pd pp D ∧ IsPow w3 G pp P ∧ (∃ A' c', w3.cell? ⟨b2, 0, none⟩ = some (.slice A' ([] : List UInt8).length c') ∧ BytesT w3 A' []) ∧ Fr (SR G b2 w) w w3 := by
  have x1 : w3.heap[b2]? = _ := (hB.block b2 (Array.getElem?_eq_some_iff.1 hb2).1).trans hb2
  exact ⟨h.below hB, hp.below hB, ⟨none, 0, by rw [cell_of_row _ _ _ _ _ _ x1]; rfl, .inl rfl⟩, Fr.ofBelow hB _⟩

def ReadW (G : Nat → Prop) (pd pp b2 : Nat) (D : Dsk) (P : Pow) (E : Int) (bs : List UInt8) (D' : Dsk) (w : World) (x : Int) (w' : World) : Prop :=
  x = E ∧ IsDisk w' G pd pp D' ∧ IsPow w' G pp P ∧ (∃ A c, w'.cell? ⟨b2, 0, none⟩ = some (.slice A bs.length c) ∧ BytesT w' A bs) ∧ Fr (SR G b2 w) w w'

set_option maxHeartbeats 8000000 in
set_option maxRecDepth 1000000 in
theorem rclosD_any (b0 b1 b2 : Nat) (a : Int) (fa fk ft : Int) (w : World) (h : IsDisk w G pd pp D) (hp : IsPow w G pp P) (hn : ¬ G b2) (cb : w.cell? ⟨b0, 0, none⟩ = some (.pointer (some ⟨pd, 0, none⟩))) (cb1 : w.cell? ⟨b1, 0, none⟩ = some (.int .i64 a)) (hb2 : w.heap[b2]? = some (.cells #[.slice none 0 0] 53 (0, 0))) :
    Calls Tryz.prog 56 #[.agg #[.int .i64 fa, .int .i64 fk, .int .i64 ft], .pointer (some ⟨b0, 0, none⟩), .pointer (some ⟨b1, 0, none⟩), .pointer (some ⟨b2, 0, none⟩)] w (WorkIs (ReadW G pd pp b2 D P (D.readE ⟨fa, fk, ft⟩ a) (D.readB ⟨fa, fk, ft⟩ a) (D.readD ⟨fa, fk, ft⟩ a) w)) := by
  have H := Lib.hid h
  have HP := Lib.hid hp
  have HB2 := Lib.hid hb2
  have l0 := World.block_lt_of_cell? _ _ cb
  have l1 := World.block_lt_of_cell? _ _ cb1
  simp only at l0 l1
  have l2 := (Array.getElem?_eq_some_iff.1 hb2).1
  clear h hp hb2
  cases hh : D.has a with
  | false =>
    have e1 : D.readE ⟨fa, fk, ft⟩ a = 2 := by unfold Dsk.readE; rw [if_pos hh]
    have e2 : D.readB ⟨fa, fk, ft⟩ a = [] := by unfold Dsk.readB; rw [if_neg (by rw [e1]; decide)]
    have e3 : D.readD ⟨fa, fk, ft⟩ a = D := by unfold Dsk.readD; rw [if_neg (by rw [e1]; decide)]
    rw [e1, e2, e3]
    have Hh := Lib.hid hh
    clear e1 e2 e3 hh
    go_enter Tryz.func56, Tryz.ntmps56
    go_wp2_with (go_at_call 53; refine (dhas_any a _ (H.out.below (by repeat (first | (with_reducible exact Below.refl _ _) | (with_reducible refine Below.drew ?_) | (with_reducible refine below_drw ?_ _) | (with_reducible refine below_alloc ?_ _) | (with_reducible refine below_set ?_ (by simp <;> omega) _) | (refine below_of (by assumption) ?_))))).mono ?_; rintro e w2 ⟨rfl, hb⟩; rw [Hh.out]; have hb3 : Below w.heap.size w w2 := below_of hb (by repeat (first | (with_reducible exact Below.refl _ _) | (with_reducible refine Below.drew ?_) | (with_reducible refine below_drw ?_ _) | (with_reducible refine below_alloc ?_ _) | (with_reducible refine below_set ?_ (by simp <;> omega) _) | (refine below_of (by assumption) ?_))); have HB3 := Lib.hid hb3; clear hb hb3)
    go_ret
    exact ⟨2, rfl, rfl, read_none HB3.out H.out HP.out HB2.out⟩
  | true =>
    have Hh := Lib.hid hh
    by_cases h4 : fk = 4
    · subst h4
      have e1 : D.readE ⟨fa, 4, ft⟩ a = 15 := by unfold Dsk.readE; rw [if_neg (by simp [hh]), if_pos rfl]
      have e2 : D.readB ⟨fa, 4, ft⟩ a = [] := by unfold Dsk.readB; rw [if_neg (by rw [e1]; decide)]
      have e3 : D.readD ⟨fa, 4, ft⟩ a = D := by unfold Dsk.readD; rw [if_neg (by rw [e1]; decide)]
      rw [e1, e2, e3]
      clear e1 e2 e3 hh
      go_enter Tryz.func56, Tryz.ntmps56
      go_wp2_with (first | (go_at_call 53; refine (dhas_any a _ (H.out.below (by repeat (first | (with_reducible exact Below.refl _ _) | (with_reducible refine Below.drew ?_) | (with_reducible refine below_drw ?_ _) | (with_reducible refine below_alloc ?_ _) | (with_reducible refine below_set ?_ (by simp <;> omega) _) | (refine below_of (by assumption) ?_))))).mono ?_; rintro e w' ⟨rfl, hb⟩; rw [Hh.out]; have hb3 : Below w.heap.size w w' := below_of hb (by repeat (first | (with_reducible exact Below.refl _ _) | (with_reducible refine Below.drew ?_) | (with_reducible refine below_drw ?_ _) | (with_reducible refine below_alloc ?_ _) | (with_reducible refine below_set ?_ (by simp <;> omega) _) | (refine below_of (by assumption) ?_))); have HB3 := Lib.hid hb3; clear hb3; (first | ((first | have hB1 := below_of hb hB | have hB1 := below_of hb (Below.drew hB) | have hB1 := below_of hb (below_drw hB _)); clear hB hb hc hf hz; have hB := hB1; clear hB1; obtain ⟨hc, hf, hz⟩ := bcell hB) | ((first | have hB1 := below_of hb (below_alloc hB _) | have hB1 := below_of hb (below_alloc (below_alloc hB _) _) | have hB1 := below_of hb (below_alloc (below_alloc (below_alloc hB _) _) _) | have hB1 := below_of hb (below_alloc (below_alloc (below_alloc (below_alloc hB _) _) _) _) | have hB1 := below_of hb (below_alloc (below_alloc (below_alloc (below_alloc (below_alloc hB _) _) _) _) _) | have hB1 := below_of hb (Below.drew (below_alloc hB _)) | have hB1 := below_of hb (Below.drew (below_alloc (below_alloc hB _) _)) | have hB1 := below_of hb (Below.drew (below_alloc (below_alloc (below_alloc hB _) _) _)) | have hB1 := below_of hb (Below.drew (below_alloc (below_alloc (below_alloc (below_alloc hB _) _) _) _)) | have hB1 := below_of hb (Below.drew (below_alloc (below_alloc (below_alloc (below_alloc (below_alloc hB _) _) _) _) _)) | have hB1 := below_of hb (below_drw (below_alloc hB _) _) | have hB1 := below_of hb (below_drw (below_alloc (below_alloc hB _) _) _) | have hB1 := below_of hb (below_drw (below_alloc (below_alloc (below_alloc hB _) _) _) _) | have hB1 := below_of hb (below_drw (below_alloc (below_alloc (below_alloc (below_alloc hB _) _) _) _) _) | have hB1 := below_of hb (below_drw (below_alloc (below_alloc (below_alloc (below_alloc (below_alloc hB _) _) _) _) _) _)); clear hB hc hf hz; have hB := hB1; clear hB1; obtain ⟨hc, hf, hz⟩ := bcell hB; obtain ⟨hc_, hf_, hz_⟩ := bcell hb; clear hb) | (have hB := hb; clear hb; obtain ⟨hc, hf, hz⟩ := bcell hB))))
      go_ret
      exact ⟨15, rfl, rfl, read_none HB3.out H.out HP.out HB2.out⟩
    · have b4 : (fk == 4) = false := by simpa using h4
      by_cases h5 : fk = 5
      · subst h5
        have hRT : Dsk.readTo a ⟨fa, 5, ft⟩ = ft := by unfold Dsk.readTo; simp [*]
        by_cases hr : D.m.readE ft = 0
        · have e1 : D.readE ⟨fa, 5, ft⟩ a = 0 := by unfold Dsk.readE; rw [if_neg (by simp [hh]), if_neg (by simp [*]), hRT, if_pos hr]
          have e2 : D.readB ⟨fa, 5, ft⟩ a = D.m.readB ft := by unfold Dsk.readB; rw [if_pos e1, hRT]
          have e3 : D.readD ⟨fa, 5, ft⟩ a = { D with s0 := inc D.s0 } := by unfold Dsk.readD; rw [if_pos e1]
          rw [e1, e2, e3]
          have HR := Lib.hid (show (D.c.d.ops D.c.l).readE ft = 0 from hr)
          clear e1 e2 e3 hh hRT hr h4
          go_enter Tryz.func56, Tryz.ntmps56
          go_wp2_with (first | (go_at_call 53; refine (dhas_any a _ (H.out.below (by repeat (first | (with_reducible exact Below.refl _ _) | (with_reducible refine Below.drew ?_) | (with_reducible refine below_drw ?_ _) | (with_reducible refine below_alloc ?_ _) | (with_reducible refine below_set ?_ (by simp <;> omega) _) | (refine below_of (by assumption) ?_))))).mono ?_; rintro e w' ⟨rfl, hb⟩; rw [Hh.out]; have hb3 : Below w.heap.size w w' := below_of hb (by repeat (first | (with_reducible exact Below.refl _ _) | (with_reducible refine Below.drew ?_) | (with_reducible refine below_drw ?_ _) | (with_reducible refine below_alloc ?_ _) | (with_reducible refine below_set ?_ (by simp <;> omega) _) | (refine below_of (by assumption) ?_))); have HB3 := Lib.hid hb3; obtain ⟨pc, A, c, h1⟩ := H.out.below hb3; obtain ⟨_, _, _, _, _, k10, _, _, _, _, _, hl⟩ := h1.cells; have C1 := Lib.hid h1.cache.toC; have cbx := cell_later hb3 cb; have cbx1 := cell_later hb3 cb1; clear h1 hb3; (first | ((first | have hB1 := below_of hb hB | have hB1 := below_of hb (Below.drew hB) | have hB1 := below_of hb (below_drw hB _)); clear hB hb hc hf hz; have hB := hB1; clear hB1; obtain ⟨hc, hf, hz⟩ := bcell hB) | ((first | have hB1 := below_of hb (below_alloc hB _) | have hB1 := below_of hb (below_alloc (below_alloc hB _) _) | have hB1 := below_of hb (below_alloc (below_alloc (below_alloc hB _) _) _) | have hB1 := below_of hb (below_alloc (below_alloc (below_alloc (below_alloc hB _) _) _) _) | have hB1 := below_of hb (below_alloc (below_alloc (below_alloc (below_alloc (below_alloc hB _) _) _) _) _) | have hB1 := below_of hb (Below.drew (below_alloc hB _)) | have hB1 := below_of hb (Below.drew (below_alloc (below_alloc hB _) _)) | have hB1 := below_of hb (Below.drew (below_alloc (below_alloc (below_alloc hB _) _) _)) | have hB1 := below_of hb (Below.drew (below_alloc (below_alloc (below_alloc (below_alloc hB _) _) _) _)) | have hB1 := below_of hb (Below.drew (below_alloc (below_alloc (below_alloc (below_alloc (below_alloc hB _) _) _) _) _)) | have hB1 := below_of hb (below_drw (below_alloc hB _) _) | have hB1 := below_of hb (below_drw (below_alloc (below_alloc hB _) _) _) | have hB1 := below_of hb (below_drw (below_alloc (below_alloc (below_alloc hB _) _) _) _) | have hB1 := below_of hb (below_drw (below_alloc (below_alloc (below_alloc (below_alloc hB _) _) _) _) _) | have hB1 := below_of hb (below_drw (below_alloc (below_alloc (below_alloc (below_alloc (below_alloc hB _) _) _) _) _) _)); clear hB hc hf hz; have hB := hB1; clear hB1; obtain ⟨hc, hf, hz⟩ := bcell hB; obtain ⟨hc_, hf_, hz_⟩ := bcell hb; clear hb) | (have hB := hb; clear hb; obtain ⟨hc, hf, hz⟩ := bcell hB))) | (go_at_call 57; refine (cread_any 0 pc D.c.d D.c.l ft _ C1.out).mono ?_; rintro e w3 ⟨A2, c2, rfl, hbt, hb4⟩; rw [HR.out]; have HBT := Lib.hid hbt; have HB4 := Lib.hid (below_of hb4 HB3.out); obtain ⟨pc3, A3, c3, h3⟩ := H.out.below HB4.out; have k0 := h3.cells.1; have f0 := h3.fz 0; have hl3 := h3.hasD.lt; have cb3 := cell_later HB4.out cb; have H3 := Lib.hid h3; have HX2 := Lib.hid ((HB4.out.block b2 l2).trans HB2.out); have z2 : w3.cell? ⟨b2, 0, none⟩ = some (.slice none 0 0) := (by rw [cell_of_row _ _ _ _ _ _ HX2.out]; rfl); have y2 : w3.frozen? ⟨b2, 0, none⟩ = false := (by simp [World.frozen?, HX2.out]); have l3 : b2 < w3.heap.size := World.block_lt_of_cell? _ _ z2; have hne : ¬ b2 = pd := (HasT.ne ⟨_, _, HX2.out⟩ h3.hasD (by decide)); have hne' : ¬ pd = b2 := (fun e => hne e.symm); have hn0 : ¬ b2 = b0 := (fun e => by subst e; rw [cb3] at z2; cases z2); clear hbt hb4 h3))
          go_ret
          exact ⟨0, rfl, rfl, read_end HB4.out H3.out (HP.out.below HB4.out) HX2.out hn HBT.out⟩
        · have e1 : D.readE ⟨fa, 5, ft⟩ a = 15 := by unfold Dsk.readE; rw [if_neg (by simp [hh]), if_neg (by simp [*]), hRT, if_neg hr]
          have e2 : D.readB ⟨fa, 5, ft⟩ a = [] := by unfold Dsk.readB; rw [if_neg (by rw [e1]; decide)]
          have e3 : D.readD ⟨fa, 5, ft⟩ a = D := by unfold Dsk.readD; rw [if_neg (by rw [e1]; decide)]
          rw [e1, e2, e3]
          obtain ⟨E, hE⟩ : ∃ E, (D.c.d.ops D.c.l).readE ft = E := ⟨_, rfl⟩
          have X1 : (E != 0) = true := by have hr' : (D.c.d.ops D.c.l).readE ft ≠ 0 := hr; rw [hE] at hr'; simpa using hr'
          have HR := Lib.hid hE
          clear e1 e2 e3 hh hRT hr h4 hE
          go_enter Tryz.func56, Tryz.ntmps56
          go_wp2_with (first | (go_at_call 53; refine (dhas_any a _ (H.out.below (by repeat (first | (with_reducible exact Below.refl _ _) | (with_reducible refine Below.drew ?_) | (with_reducible refine below_drw ?_ _) | (with_reducible refine below_alloc ?_ _) | (with_reducible refine below_set ?_ (by simp <;> omega) _) | (refine below_of (by assumption) ?_))))).mono ?_; rintro e w' ⟨rfl, hb⟩; rw [Hh.out]; have hb3 : Below w.heap.size w w' := below_of hb (by repeat (first | (with_reducible exact Below.refl _ _) | (with_reducible refine Below.drew ?_) | (with_reducible refine below_drw ?_ _) | (with_reducible refine below_alloc ?_ _) | (with_reducible refine below_set ?_ (by simp <;> omega) _) | (refine below_of (by assumption) ?_))); have HB3 := Lib.hid hb3; obtain ⟨pc, A, c, h1⟩ := H.out.below hb3; obtain ⟨_, _, _, _, _, k10, _, _, _, _, _, hl⟩ := h1.cells; have C1 := Lib.hid h1.cache.toC; have cbx := cell_later hb3 cb; have cbx1 := cell_later hb3 cb1; clear h1 hb3; (first | ((first | have hB1 := below_of hb hB | have hB1 := below_of hb (Below.drew hB) | have hB1 := below_of hb (below_drw hB _)); clear hB hb hc hf hz; have hB := hB1; clear hB1; obtain ⟨hc, hf, hz⟩ := bcell hB) | ((first | have hB1 := below_of hb (below_alloc hB _) | have hB1 := below_of hb (below_alloc (below_alloc hB _) _) | have hB1 := below_of hb (below_alloc (below_alloc (below_alloc hB _) _) _) | have hB1 := below_of hb (below_alloc (below_alloc (below_alloc (below_alloc hB _) _) _) _) | have hB1 := below_of hb (below_alloc (below_alloc (below_alloc (below_alloc (below_alloc hB _) _) _) _) _) | have hB1 := below_of hb (Below.drew (below_alloc hB _)) | have hB1 := below_of hb (Below.drew (below_alloc (below_alloc hB _) _)) | have hB1 := below_of hb (Below.drew (below_alloc (below_alloc (below_alloc hB _) _) _)) | have hB1 := below_of hb (Below.drew (below_alloc (below_alloc (below_alloc (below_alloc hB _) _) _) _)) | have hB1 := below_of hb (Below.drew (below_alloc (below_alloc (below_alloc (below_alloc (below_alloc hB _) _) _) _) _)) | have hB1 := below_of hb (below_drw (below_alloc hB _) _) | have hB1 := below_of hb (below_drw (below_alloc (below_alloc hB _) _) _) | have hB1 := below_of hb (below_drw (below_alloc (below_alloc (below_alloc hB _) _) _) _) | have hB1 := below_of hb (below_drw (below_alloc (below_alloc (below_alloc (below_alloc hB _) _) _) _) _) | have hB1 := below_of hb (below_drw (below_alloc (below_alloc (below_alloc (below_alloc (below_alloc hB _) _) _) _) _) _)); clear hB hc hf hz; have hB := hB1; clear hB1; obtain ⟨hc, hf, hz⟩ := bcell hB; obtain ⟨hc_, hf_, hz_⟩ := bcell hb; clear hb) | (have hB := hb; clear hb; obtain ⟨hc, hf, hz⟩ := bcell hB))) | (go_at_call 57; refine (cread_any 0 pc D.c.d D.c.l ft _ C1.out).mono ?_; rintro e w3 ⟨A2, c2, rfl, hbt, hb4⟩; rw [HR.out]; have HB4 := Lib.hid (below_of hb4 HB3.out); clear hbt hb4))
          go_ret
          exact ⟨15, rfl, rfl, read_none HB4.out H.out HP.out HB2.out⟩
      · have b5 : (fk == 5) = false := by simpa using h5
        have hRT : Dsk.readTo a ⟨fa, fk, ft⟩ = a := by unfold Dsk.readTo; simp [*]
        by_cases hr : D.m.readE a = 0
        · have e1 : D.readE ⟨fa, fk, ft⟩ a = 0 := by unfold Dsk.readE; rw [if_neg (by simp [hh]), if_neg (by simp [*]), hRT, if_pos hr]
          have e2 : D.readB ⟨fa, fk, ft⟩ a = D.m.readB a := by unfold Dsk.readB; rw [if_pos e1, hRT]
          have e3 : D.readD ⟨fa, fk, ft⟩ a = { D with s0 := inc D.s0 } := by unfold Dsk.readD; rw [if_pos e1]
          rw [e1, e2, e3]
          have HR := Lib.hid (show (D.c.d.ops D.c.l).readE a = 0 from hr)
          clear e1 e2 e3 hh hRT hr h4 h5
          go_enter Tryz.func56, Tryz.ntmps56
          go_wp2_with (first | (go_at_call 53; refine (dhas_any a _ (H.out.below (by repeat (first | (with_reducible exact Below.refl _ _) | (with_reducible refine Below.drew ?_) | (with_reducible refine below_drw ?_ _) | (with_reducible refine below_alloc ?_ _) | (with_reducible refine below_set ?_ (by simp <;> omega) _) | (refine below_of (by assumption) ?_))))).mono ?_; rintro e w' ⟨rfl, hb⟩; rw [Hh.out]; have hb3 : Below w.heap.size w w' := below_of hb (by repeat (first | (with_reducible exact Below.refl _ _) | (with_reducible refine Below.drew ?_) | (with_reducible refine below_drw ?_ _) | (with_reducible refine below_alloc ?_ _) | (with_reducible refine below_set ?_ (by simp <;> omega) _) | (refine below_of (by assumption) ?_))); have HB3 := Lib.hid hb3; obtain ⟨pc, A, c, h1⟩ := H.out.below hb3; obtain ⟨_, _, _, _, _, k10, _, _, _, _, _, hl⟩ := h1.cells; have C1 := Lib.hid h1.cache.toC; have cbx := cell_later hb3 cb; have cbx1 := cell_later hb3 cb1; clear h1 hb3; (first | ((first | have hB1 := below_of hb hB | have hB1 := below_of hb (Below.drew hB) | have hB1 := below_of hb (below_drw hB _)); clear hB hb hc hf hz; have hB := hB1; clear hB1; obtain ⟨hc, hf, hz⟩ := bcell hB) | ((first | have hB1 := below_of hb (below_alloc hB _) | have hB1 := below_of hb (below_alloc (below_alloc hB _) _) | have hB1 := below_of hb (below_alloc (below_alloc (below_alloc hB _) _) _) | have hB1 := below_of hb (below_alloc (below_alloc (below_alloc (below_alloc hB _) _) _) _) | have hB1 := below_of hb (below_alloc (below_alloc (below_alloc (below_alloc (below_alloc hB _) _) _) _) _) | have hB1 := below_of hb (Below.drew (below_alloc hB _)) | have hB1 := below_of hb (Below.drew (below_alloc (below_alloc hB _) _)) | have hB1 := below_of hb (Below.drew (below_alloc (below_alloc (below_alloc hB _) _) _)) | have hB1 := below_of hb (Below.drew (below_alloc (below_alloc (below_alloc (below_alloc hB _) _) _) _)) | have hB1 := below_of hb (Below.drew (below_alloc (below_alloc (below_alloc (below_alloc (below_alloc hB _) _) _) _) _)) | have hB1 := below_of hb (below_drw (below_alloc hB _) _) | have hB1 := below_of hb (below_drw (below_alloc (below_alloc hB _) _) _) | have hB1 := below_of hb (below_drw (below_alloc (below_alloc (below_alloc hB _) _) _) _) | have hB1 := below_of hb (below_drw (below_alloc (below_alloc (below_alloc (below_alloc hB _) _) _) _) _) | have hB1 := below_of hb (below_drw (below_alloc (below_alloc (below_alloc (below_alloc (below_alloc hB _) _) _) _) _) _)); clear hB hc hf hz; have hB := hB1; clear hB1; obtain ⟨hc, hf, hz⟩ := bcell hB; obtain ⟨hc_, hf_, hz_⟩ := bcell hb; clear hb) | (have hB := hb; clear hb; obtain ⟨hc, hf, hz⟩ := bcell hB))) | (go_at_call 57; refine (cread_any 0 pc D.c.d D.c.l a _ C1.out).mono ?_; rintro e w3 ⟨A2, c2, rfl, hbt, hb4⟩; rw [HR.out]; have HBT := Lib.hid hbt; have HB4 := Lib.hid (below_of hb4 HB3.out); obtain ⟨pc3, A3, c3, h3⟩ := H.out.below HB4.out; have k0 := h3.cells.1; have f0 := h3.fz 0; have hl3 := h3.hasD.lt; have cb3 := cell_later HB4.out cb; have H3 := Lib.hid h3; have HX2 := Lib.hid ((HB4.out.block b2 l2).trans HB2.out); have z2 : w3.cell? ⟨b2, 0, none⟩ = some (.slice none 0 0) := (by rw [cell_of_row _ _ _ _ _ _ HX2.out]; rfl); have y2 : w3.frozen? ⟨b2, 0, none⟩ = false := (by simp [World.frozen?, HX2.out]); have l3 : b2 < w3.heap.size := World.block_lt_of_cell? _ _ z2; have hne : ¬ b2 = pd := (HasT.ne ⟨_, _, HX2.out⟩ h3.hasD (by decide)); have hne' : ¬ pd = b2 := (fun e => hne e.symm); have hn0 : ¬ b2 = b0 := (fun e => by subst e; rw [cb3] at z2; cases z2); clear hbt hb4 h3))
          go_ret
          exact ⟨0, rfl, rfl, read_end HB4.out H3.out (HP.out.below HB4.out) HX2.out hn HBT.out⟩
        · have e1 : D.readE ⟨fa, fk, ft⟩ a = 15 := by unfold Dsk.readE; rw [if_neg (by simp [hh]), if_neg (by simp [*]), hRT, if_neg hr]
          have e2 : D.readB ⟨fa, fk, ft⟩ a = [] := by unfold Dsk.readB; rw [if_neg (by rw [e1]; decide)]
          have e3 : D.readD ⟨fa, fk, ft⟩ a = D := by unfold Dsk.readD; rw [if_neg (by rw [e1]; decide)]
          rw [e1, e2, e3]
          obtain ⟨E, hE⟩ : ∃ E, (D.c.d.ops D.c.l).readE a = E := ⟨_, rfl⟩
          have X1 : (E != 0) = true := by have hr' : (D.c.d.ops D.c.l).readE a ≠ 0 := hr; rw [hE] at hr'; simpa using hr'
          have HR := Lib.hid hE
          clear e1 e2 e3 hh hRT hr h4 h5 hE
          go_enter Tryz.func56, Tryz.ntmps56
          go_wp2_with (first | (go_at_call 53; refine (dhas_any a _ (H.out.below (by repeat (first | (with_reducible exact Below.refl _ _) | (with_reducible refine Below.drew ?_) | (with_reducible refine below_drw ?_ _) | (with_reducible refine below_alloc ?_ _) | (with_reducible refine below_set ?_ (by simp <;> omega) _) | (refine below_of (by assumption) ?_))))).mono ?_; rintro e w' ⟨rfl, hb⟩; rw [Hh.out]; have hb3 : Below w.heap.size w w' := below_of hb (by repeat (first | (with_reducible exact Below.refl _ _) | (with_reducible refine Below.drew ?_) | (with_reducible refine below_drw ?_ _) | (with_reducible refine below_alloc ?_ _) | (with_reducible refine below_set ?_ (by simp <;> omega) _) | (refine below_of (by assumption) ?_))); have HB3 := Lib.hid hb3; obtain ⟨pc, A, c, h1⟩ := H.out.below hb3; obtain ⟨_, _, _, _, _, k10, _, _, _, _, _, hl⟩ := h1.cells; have C1 := Lib.hid h1.cache.toC; have cbx := cell_later hb3 cb; have cbx1 := cell_later hb3 cb1; clear h1 hb3; (first | ((first | have hB1 := below_of hb hB | have hB1 := below_of hb (Below.drew hB) | have hB1 := below_of hb (below_drw hB _)); clear hB hb hc hf hz; have hB := hB1; clear hB1; obtain ⟨hc, hf, hz⟩ := bcell hB) | ((first | have hB1 := below_of hb (below_alloc hB _) | have hB1 := below_of hb (below_alloc (below_alloc hB _) _) | have hB1 := below_of hb (below_alloc (below_alloc (below_alloc hB _) _) _) | have hB1 := below_of hb (below_alloc (below_alloc (below_alloc (below_alloc hB _) _) _) _) | have hB1 := below_of hb (below_alloc (below_alloc (below_alloc (below_alloc (below_alloc hB _) _) _) _) _) | have hB1 := below_of hb (Below.drew (below_alloc hB _)) | have hB1 := below_of hb (Below.drew (below_alloc (below_alloc hB _) _)) | have hB1 := below_of hb (Below.drew (below_alloc (below_alloc (below_alloc hB _) _) _)) | have hB1 := below_of hb (Below.drew (below_alloc (below_alloc (below_alloc (below_alloc hB _) _) _) _)) | have hB1 := below_of hb (Below.drew (below_alloc (below_alloc (below_alloc (below_alloc (below_alloc hB _) _) _) _) _)) | have hB1 := below_of hb (below_drw (below_alloc hB _) _) | have hB1 := below_of hb (below_drw (below_alloc (below_alloc hB _) _) _) | have hB1 := below_of hb (below_drw (below_alloc (below_alloc (below_alloc hB _) _) _) _) | have hB1 := below_of hb (below_drw (below_alloc (below_alloc (below_alloc (below_alloc hB _) _) _) _) _) | have hB1 := below_of hb (below_drw (below_alloc (below_alloc (below_alloc (below_alloc (below_alloc hB _) _) _) _) _) _)); clear hB hc hf hz; have hB := hB1; clear hB1; obtain ⟨hc, hf, hz⟩ := bcell hB; obtain ⟨hc_, hf_, hz_⟩ := bcell hb; clear hb) | (have hB := hb; clear hb; obtain ⟨hc, hf, hz⟩ := bcell hB))) | (go_at_call 57; refine (cread_any 0 pc D.c.d D.c.l a _ C1.out).mono ?_; rintro e w3 ⟨A2, c2, rfl, hbt, hb4⟩; rw [HR.out]; have HB4 := Lib.hid (below_of hb4 HB3.out); clear hbt hb4))
          go_ret
          exact ⟨15, rfl, rfl, read_none HB4.out H.out HP.out HB2.out⟩

theorem read_fr {G' : Nat → Prop} {w W3 w1 w' : World} {b2 : Nat} (hb : Below w.heap.size w W3) (f1 : FrG G' diskTs W3 w1) (f2 : Fr (SR G' b2 w1) w1 w') (h2 : w.heap.size ≤ b2) (hGG : ∀ k, G' k → G k) : FrG G diskTs w w' := by
  have F1 : FrG G diskTs w w1 := (FrG.ofBelow hb).trans (f1.mono (fun k _ h => hGG k h) (by decide))
  refine Fr.transW F1 f2 ?_
  rintro i hi (⟨hGi, T, hT, hh⟩ | e)
  · by_cases hS : TG G diskTs w i
    · exact hS
    · exact ⟨hGG i hGi, T, hT, hh.back F1 hi hS⟩
  · omega
def ReadOut (G : Nat → Prop) (pd pp : Nat) (o : Out) (bs : List UInt8) (w : World) (e : Ending) (w' : World) : Prop :=
  ∃ A c, e = .returned (.tuple #[.slice A bs.length c, .int .i64 o.e]) ∧ BytesT w' A bs ∧ IsDisk w' G pd pp o.d ∧ IsPow w' G pp o.p ∧ FrG G diskTs w w'
theorem heap_past3 {w : World} {b : Nat} {o x : Obj} (h : w.heap[b]? = some o) : (w.alloc x).heap[b]? = some o :=
  (((Below.refl w.heap.size w).alloc (Nat.le_refl _) x).block b (Array.getElem?_eq_some_iff.1 h).1).trans h
theorem heap_new3 (w : World) (x : Obj) (g : Nat) (hg : g = w.heap.size) : (w.alloc x).heap[g]? = some x := by subst hg; exact heap_alloc_new w x
theorem box_read (w : World) (pd : Nat) (a : Int) : let W := ((w.alloc (.cells #[.pointer (some ⟨pd, 0, none⟩)] 32)).alloc (.cells #[.int .i64 a] 3)).alloc (.cells #[.slice none 0 0] 53)
    Below w.heap.size w W ∧ W.heap[w.heap.size]? = some (.cells #[.pointer (some ⟨pd, 0, none⟩)] 32 (0, 0)) ∧ W.heap[w.heap.size + 1]? = some (.cells #[.int .i64 a] 3 (0, 0)) ∧ W.heap[w.heap.size + 2]? = some (.cells #[.slice none 0 0] 53 (0, 0)) := by
  exact ⟨below_alloc (below_alloc ((Below.refl _ _).alloc (Nat.le_refl _) _) _) _, heap_past3 (heap_past3 (heap_new3 _ _ _ rfl)), heap_past3 (heap_new3 _ _ _ (by simp)), heap_new3 _ _ _ (by simp)⟩
/-- A block of another type stands where only disks turn. -/
theorem cap_block {G : Nat → Prop} {w w1 : World} {b : Nat} {T : TypeId} {cs : Array Value} {fr : Nat × Nat} (hT : w.heap[b]? = some (.cells cs T fr)) (hF : FrG G diskTs w w1) (hn : (!diskTs.contains T) = true) : w1.heap[b]? = some (.cells cs T fr) := by
  have hh : HasT w b T := ⟨_, _, hT⟩
  have hA : ¬ TG G diskTs w b := by
    rintro ⟨_, T', h1, h2⟩
    have hne : T' ≠ T := by rintro rfl; simp at hn; simp at h1; simp_all
    exact h2.ne hh hne rfl
  exact (Fr.block hF b hh.lt hA).trans hT
theorem cell_one {w : World} {b : Nat} {v : Value} {T : TypeId} (h : w.heap[b]? = some (.cells #[v] T (0, 0))) : w.cell? ⟨b, 0, none⟩ = some v := by rw [cell_of_row _ _ _ _ _ _ h]; rfl

set_option maxHeartbeats 8000000 in
set_option maxRecDepth 1000000 in
theorem dread_any (key a : Int) (w : World) (h : IsDisk w G pd pp D) (hp : IsPow w G pp P) (hfl : D.fl.length ≤ 1000000) :
    Calls Tryz.prog 19 #[.pointer (some ⟨pd, 0, none⟩), .int .u64 key, .int .i64 a] w (ReadOut G pd pp (D.readO P key a) (D.readBs P key a) w) := by
  obtain ⟨hb0, B0, B1, B2⟩ := box_read w pd a
  have hpl := hp.hasP.lt
  have H := Lib.hid ((h.mono (H := fun k => G k ∧ k ≠ w.heap.size + 2) (fun k hk hg => ⟨hg, by omega⟩)).below hb0)
  have HP := Lib.hid ((hp.mono (H := fun k => G k ∧ k ≠ w.heap.size + 2) (fun hg => ⟨hg, by omega⟩)).below hb0)
  have HB := Lib.hid hb0
  have c0 := cell_one B0
  have HB0 := Lib.hid B0
  have HB1 := Lib.hid B1
  have HB2 := Lib.hid B2
  have h' := h
  have hp' := hp
  clear h hp hb0 B0 B1 B2
  by_cases hE : (D.begin_ P key).e = 0
  · have hO : D.readO P key a = ⟨({ D with count := inc D.count } : Dsk).readE D.flt a, ({ D with count := inc D.count } : Dsk).readD D.flt a, P.call⟩ := by unfold Dsk.readO; rw [if_pos hE, Dsk.begin_is hE]
    have hOb : D.readBs P key a = ({ D with count := inc D.count } : Dsk).readB D.flt a := by unfold Dsk.readBs; rw [if_pos hE, Dsk.begin_is hE]
    rw [hO, hOb]
    obtain ⟨hs, hc, hk, h7, h6⟩ := Dsk.begin_zero hE
    subst hk
    clear hO hOb hE h' hp'
    obtain ⟨f, hf⟩ : ∃ f, D.flt = f := ⟨_, rfl⟩
    rw [hf] at h7 h6 ⊢
    obtain ⟨fa, fk, ft⟩ := f
    have HS := Lib.hid hs
    have HC := Lib.hid hc
    have HF := Lib.hid hf
    have H7 := Lib.hid h7
    have H6 := Lib.hid h6
    clear hs hc hf h7 h6
    go_enter Tryz.func19, Tryz.ntmps19
    go_wp2_with (go_at_call 51; refine (dperform_read w.heap.size (w.heap.size + 1) (w.heap.size + 2) (fun x w' => x = ({ D with count := inc D.count } : Dsk).readE ⟨fa, fk, ft⟩ a ∧ IsDisk w' (fun k => G k ∧ k ≠ w.heap.size + 2) pd pp (({ D with count := inc D.count } : Dsk).readD ⟨fa, fk, ft⟩ a) ∧ IsPow w' (fun k => G k ∧ k ≠ w.heap.size + 2) pp P.call ∧ (∃ A c, w'.cell? ⟨w.heap.size + 2, 0, none⟩ = some (.slice A (({ D with count := inc D.count } : Dsk).readB ⟨fa, fk, ft⟩ a).length c) ∧ BytesT w' A (({ D with count := inc D.count } : Dsk).readB ⟨fa, fk, ft⟩ a)) ∧ FrG G diskTs w w') fa fk ft _ H.out HP.out hfl HS.out HC.out HF.out H7.out H6.out (fun w1 h1 p1 f1 => (rclosD_any w.heap.size (w.heap.size + 1) (w.heap.size + 2) a fa fk ft w1 h1 p1 (fun hh => hh.2 rfl) (cell_one (cap_block HB0.out f1 (by decide))) (cell_one (cap_block HB1.out f1 (by decide))) (cap_block HB2.out f1 (by decide))).mono (fun e w' ⟨x, e1, e2, e3, e4, e5, e6⟩ => ⟨x, e1, e2, e3, e4, e5, read_fr HB.out f1 e6 (by omega) (fun k hk => hk.1)⟩))).mono ?_; rintro e w2 ⟨x, rfl, rfl, hD, hP, ⟨A2, c2, hcell, hbt⟩, hF⟩; have HD := Lib.hid hD; have HP2 := Lib.hid hP; have HF2 := Lib.hid hF; have HBT := Lib.hid hbt; clear hD hP hF hbt)
    go_ret2
    exact ⟨A2, c2, rfl, HBT.out, HD.out.mono (fun k _ hk => hk.1), HP2.out.mono (fun hk => hk.1), HF2.out⟩
  · have hO : D.readO P key a = ⟨(D.begin_ P key).e, (D.begin_ P key).d, (D.begin_ P key).p⟩ := by unfold Dsk.readO; rw [if_neg hE]
    have hOb : D.readBs P key a = [] := by unfold Dsk.readBs; rw [if_neg hE]
    rw [hO, hOb]
    have HE := Lib.hid hE
    clear hO hOb hE h' hp'
    go_enter Tryz.func19, Tryz.ntmps19
    go_wp2_with (go_at_call 51; refine (dperform_stop key _ _ H.out HP.out hfl HE.out).mono ?_; rintro e w2 ⟨rfl, hD, hP, hF⟩; have hcell := cell_one (cap_block HB2.out hF (by decide)); have HD := Lib.hid hD; have HP2 := Lib.hid hP; have HF2 := Lib.hid ((FrG.ofBelow HB.out).trans (hF.mono (H := G) (Us := diskTs) (fun k _ hk => hk.1) (by decide))); clear hD hP hF)
    go_ret2
    exact ⟨none, 0, rfl, .inl rfl, HD.out.mono (fun k _ hk => hk.1), HP2.out.mono (fun hk => hk.1), HF2.out⟩
end
end Go.Proofs.YtmloiifnadaaoaaGreat
