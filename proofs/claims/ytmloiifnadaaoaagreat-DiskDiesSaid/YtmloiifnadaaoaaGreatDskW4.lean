/- The walk of perform: where it stops ahead of the work. -/
import Derived.Test.YtmloiifnadaaoaaGreatDskW3
namespace Go.Proofs.YtmloiifnadaaoaaGreat
open Go.RowKit
set_option linter.unusedVariables false
set_option linter.unusedSimpArgs false

section
variable {G : Nat → Prop} {pd pp : Nat} {D : Dsk} {P : Pow}
theorem IsDisk.frP {w w' : World} (h : IsDisk w G pd pp D) (hp : IsPow w G pp P) (hF : Fr (· = pp) w w') : IsDisk w' G pd pp D := h.keepA hF (avoid_one hp.hasP (by decide))
theorem frG_pow {w w' : World} (hp : IsPow w G pp P) (hF : Fr (· = pp) w w') : FrG G diskTs w w' := FrG.ofOne hF hp.hasP (by decide) hp.1
def HeldP (w1 : World) (pd : Nat) (u4 u11 : Value) (W : World) : Prop := W.cell? ⟨pd, 4, none⟩ = some u4 ∧ W.cell? ⟨pd, 11, none⟩ = some u11 ∧ Below w1.heap.size w1 W
theorem HeldP.keep {w1 : World} {u4 u11 : Value} {W W' : World} (h : HeldP w1 pd u4 u11 W) (hb : Below W.heap.size W W') : HeldP w1 pd u4 u11 W' := ⟨cell_later hb h.1, cell_later hb h.2.1, below_of hb h.2.2⟩
theorem HeldP.alloc {w1 : World} {u4 u11 : Value} {W : World} (h : HeldP w1 pd u4 u11 W) (o : Obj) : HeldP w1 pd u4 u11 (W.alloc o) := h.keep ((Below.refl _ _).alloc (Nat.le_refl _) _)
theorem HeldP.set {w1 : World} {u4 u11 : Value} {W : World} (h : HeldP w1 pd u4 u11 W) (hpd : pd < w1.heap.size) {k : Nat} (hk : w1.heap.size ≤ k) (i : Nat) (v : Value) : HeldP w1 pd u4 u11 (W.setCell ⟨k, i, none⟩ v) := by
  have hne : ∀ j, (⟨k, i, none⟩ : Addr) ≠ ⟨pd, j, none⟩ := fun j e => by injection e with e; omega
  exact ⟨by rw [World.cell?_setCell_other _ _ _ _ (hne 4)]; exact h.1, by rw [World.cell?_setCell_other _ _ _ _ (hne 11)]; exact h.2.1, below_set h.2.2 hk _⟩

/-- Which way an operation begins. -/
theorem Dsk.begin_state (h : D.state P ≠ 0) (key : Int) : D.begin_ P key = ⟨P, D, D.state P, ⟨0, 0, 0⟩⟩ := by unfold Dsk.begin_; rw [if_pos h]
theorem Dsk.begin_power (h : D.state P = 0) (h2 : P.call.off = true) (key : Int) : D.begin_ P key = ⟨P.call, D, 13, ⟨0, 0, 0⟩⟩ := by unfold Dsk.begin_; rw [if_neg (by simp [h]), if_pos h2]
theorem Dsk.begin_key (h : D.state P = 0) (h2 : P.call.off = false) {key : Int} (h3 : key ≠ D.key) : D.begin_ P key = ⟨P.call, D, 17, ⟨0, 0, 0⟩⟩ := by unfold Dsk.begin_; rw [if_neg (by simp [h]), if_neg (by simp [h2]), if_pos h3]
theorem Dsk.begin_die (h : D.state P = 0) (h2 : P.call.off = false) {key : Int} (h3 : key = D.key) (h4 : D.flt.kind = 7) : D.begin_ P key = ⟨P.call, { D with count := inc D.count, dead := true }, 14, D.flt⟩ := by unfold Dsk.begin_; rw [if_neg (by simp [h]), if_neg (by simp [h2]), if_neg (by simp [h3]), if_pos h4]
theorem Dsk.begin_slow (h : D.state P = 0) (h2 : P.call.off = false) {key : Int} (h3 : key = D.key) (h4 : D.flt.kind = 6) : D.begin_ P key = ⟨P.call, { D with count := inc D.count }, 16, D.flt⟩ := by unfold Dsk.begin_; rw [if_neg (by simp [h]), if_neg (by simp [h2]), if_neg (by simp [h3]), if_neg (by simp [h4]), if_pos h4]
theorem Dsk.begin_go (h : D.state P = 0) (h2 : P.call.off = false) {key : Int} (h3 : key = D.key) (h4 : D.flt.kind ≠ 7) (h5 : D.flt.kind ≠ 6) : D.begin_ P key = ⟨P.call, { D with count := inc D.count }, 0, D.flt⟩ := by unfold Dsk.begin_; rw [if_neg (by simp [h]), if_neg (by simp [h2]), if_neg (by simp [h3]), if_neg h4, if_neg h5]

/-- The count behind a fault that was looked up. -/
theorem IsDisk.count {w3 w5 : World} (h : IsDisk w3 G pd pp D) (hb : Below w3.heap.size w3 w5) : IsDisk (w5.setCell ⟨pd, 4, none⟩ (.int .i64 (inc D.count))) G pd pp { D with count := inc D.count } ∧ FrG G diskTs w3 (w5.setCell ⟨pd, 4, none⟩ (.int .i64 (inc D.count))) := by
  obtain ⟨pc, A, c, h⟩ := h.below hb
  obtain ⟨g1, g2⟩ := h.store (D' := { D with count := inc D.count }) (i := 4) (v := .int .i64 (inc D.count)) rfl rfl rfl rfl
  exact ⟨⟨pc, A, c, g1⟩, (FrG.ofBelow hb).trans g2⟩
theorem IsDisk.die {w : World} (h : IsDisk w G pd pp D) : IsDisk (w.setCell ⟨pd, 15, none⟩ (.bool true)) G pd pp { D with dead := true } ∧ FrG G diskTs w (w.setCell ⟨pd, 15, none⟩ (.bool true)) := by
  obtain ⟨pc, A, c, h⟩ := h
  obtain ⟨g1, g2⟩ := h.store (D' := { D with dead := true }) (i := 15) (v := .bool true) rfl rfl rfl rfl
  exact ⟨⟨pc, A, c, g1⟩, g2⟩
theorem IsDisk.hasD {w : World} (h : IsDisk w G pd pp D) : HasT w pd 79 := by
  obtain ⟨pc, A, c, h⟩ := h
  exact h.hasD

theorem begin_count2 {w2 w5 : World} (h : IsDisk w2 G pd pp D) (hp : IsPow w2 G pp P) (hb : Below w2.heap.size w2 w5) :
    IsDisk (w5.setCell ⟨pd, 4, none⟩ (.int .i64 (inc D.count))) G pd pp { D with count := inc D.count } ∧ IsPow (w5.setCell ⟨pd, 4, none⟩ (.int .i64 (inc D.count))) G pp P ∧ FrG G diskTs w2 (w5.setCell ⟨pd, 4, none⟩ (.int .i64 (inc D.count))) := by
  obtain ⟨g1, g2⟩ := h.count hb
  exact ⟨g1, (hp.below hb).setD (h.below hb).hasD 4 _, g2⟩
theorem begin_die2 {w2 w5 : World} (h : IsDisk w2 G pd pp D) (hp : IsPow w2 G pp P) (hb : Below w2.heap.size w2 w5) :
    IsDisk ((w5.setCell ⟨pd, 4, none⟩ (.int .i64 (inc D.count))).setCell ⟨pd, 15, none⟩ (.bool true)) G pd pp { D with count := inc D.count, dead := true } ∧ IsPow ((w5.setCell ⟨pd, 4, none⟩ (.int .i64 (inc D.count))).setCell ⟨pd, 15, none⟩ (.bool true)) G pp P ∧ FrG G diskTs w2 ((w5.setCell ⟨pd, 4, none⟩ (.int .i64 (inc D.count))).setCell ⟨pd, 15, none⟩ (.bool true)) := by
  obtain ⟨g1, g2, g3⟩ := begin_count2 h hp hb
  obtain ⟨k1, k2⟩ := g1.die
  exact ⟨k1, g2.setD g1.hasD 15 _, g3.trans k2⟩
theorem begin_fin {w w2 wf : World} {Q : Pow} {E : Dsk} (F : FrG G diskTs w w2) (h : IsDisk wf G pd pp E ∧ IsPow wf G pp Q ∧ FrG G diskTs w2 wf) : IsDisk wf G pd pp E ∧ IsPow wf G pp Q ∧ FrG G diskTs w wf := ⟨h.1, h.2.1, F.trans h.2.2⟩
theorem begin_finA {w w2 wf : World} {o : Obj} {Q : Pow} {E : Dsk} (F : FrG G diskTs w w2) (h : IsDisk wf G pd pp E ∧ IsPow wf G pp Q ∧ FrG G diskTs w2 wf) : IsDisk (wf.alloc o) G pd pp E ∧ IsPow (wf.alloc o) G pp Q ∧ FrG G diskTs w (wf.alloc o) := by
  have hb : Below wf.heap.size wf (wf.alloc o) := (Below.refl _ _).alloc (Nat.le_refl _) _
  exact ⟨h.1.below hb, h.2.1.below hb, (F.trans h.2.2).call hb⟩

/-- What a stopped operation leaves. -/
def StopIs (G : Nat → Prop) (pd pp : Nat) (b : Beg) (w : World) (e : Ending) (w' : World) : Prop :=
  e = .returned (.int .i64 b.e) ∧ IsDisk w' G pd pp b.d ∧ IsPow w' G pp b.p ∧ FrG G diskTs w w'

set_option maxHeartbeats 8000000 in
set_option maxRecDepth 1000000 in
theorem dperform_stop (key : Int) (v : Value) (w : World) (h : IsDisk w G pd pp D) (hp : IsPow w G pp P) (hfl : D.fl.length ≤ 1000000) (hE : (D.begin_ P key).e ≠ 0) :
    Calls Tryz.prog 51 #[.pointer (some ⟨pd, 0, none⟩), .int .u64 key, v] w (StopIs G pd pp (D.begin_ P key) w) := by
  have H := Lib.hid h
  have HP := Lib.hid hp
  clear h hp
  by_cases hs : D.state P = 0
  · have hoff := (Dsk.state_zero hs).2.1
    have HS := Lib.hid hs
    cases hc : P.call.off with
    | true =>
      rw [Dsk.begin_power hs hc]
      have HC := Lib.hid hc
      clear hs hc hE
      go_enter Tryz.func51, Tryz.ntmps51
      go_wp2_with (first | (go_at_call 38; refine (dstate_any _ H.out HP.out).mono ?_; rintro e w1 ⟨rfl, hb⟩; rw [HS.out]; obtain ⟨pc, A, c, h1⟩ := H.out.below hb; obtain ⟨_, _, _, _, _, _, _, k12, _, _, _, hl⟩ := h1.cells; have H1 := Lib.hid (H.out.below hb); have P1 := Lib.hid (HP.out.below hb); have B1 := Lib.hid hb; clear h1 hb) | (go_at_call 80; refine (dcall_any _ P1.out hoff).mono ?_; rintro e w2 ⟨rfl, hP2, hF2⟩; rw [HC.out]; have H2 := Lib.hid (H1.out.frP P1.out hF2); have P2 := Lib.hid hP2; have F2 := Lib.hid ((FrG.ofBelow B1.out).trans (frG_pow P1.out hF2)); clear hP2 hF2))
      go_ret
      exact ⟨rfl, H2.out, P2.out, F2.out⟩
    | false =>
      have HC := Lib.hid hc
      by_cases hk : key = D.key
      · subst hk
        obtain ⟨f, hf⟩ : ∃ f, D.flt = f := ⟨_, rfl⟩
        by_cases h7 : D.flt.kind = 7
        · rw [Dsk.begin_die hs hc rfl h7]
          obtain ⟨fa, fk, ft⟩ := f
          have hfk : fk = 7 := by rw [hf] at h7; exact h7
          subst hfk
          have HF := Lib.hid (show fltAt D.fl D.count = ⟨fa, 7, ft⟩ from hf)
          clear hs hc hE hf h7
          go_enter Tryz.func51, Tryz.ntmps51
          go_wp2_with (first | (go_at_call 38; refine (dstate_any _ H.out HP.out).mono ?_; rintro e w1 ⟨rfl, hb⟩; rw [HS.out]; obtain ⟨pc, A, c, h1⟩ := H.out.below hb; obtain ⟨_, _, _, _, _, _, _, k12, _, _, _, hl⟩ := h1.cells; have H1 := Lib.hid (H.out.below hb); have P1 := Lib.hid (HP.out.below hb); have B1 := Lib.hid hb; clear h1 hb) | (go_at_call 80; refine (dcall_any _ P1.out hoff).mono ?_; rintro e w2 ⟨rfl, hP2, hF2⟩; rw [HC.out]; have h2 := H1.out.frP P1.out hF2; have H2 := Lib.hid h2; obtain ⟨pc2, A2, c2, h3⟩ := h2; obtain ⟨_, _, _, _, k4, _, k11, _, _, k14, _, hl2⟩ := h3.cells; have HT2 := Lib.hid h3.flts; have P2 := Lib.hid hP2; have F2 := Lib.hid ((FrG.ofBelow B1.out).trans (frG_pow P1.out hF2)); have HS2 := Lib.hid (show HeldP w2 pd _ _ w2.drew from ⟨k4, k11, (Below.refl _ _).drew⟩); clear hP2 hF2 h3))
          go_region_held3 (fun W_ => W_.cell? ⟨pd, 4, none⟩ = some (.int .i64 D.count) ∧ W_.cell? ⟨pd, 11, none⟩ = some (.slice A2 D.fl.length c2) ∧ Below w2.heap.size w2 W_) (first | assumption | exact HS2.out | exact HeldP.alloc HS2.out _ | exact HeldP.alloc HS3.out _ | exact HS3.out | exact HeldP.set (HeldP.set (HeldP.set HS3.out hl2 (Nat.le_refl _) 0 _) hl2 (Nat.le_refl _) 1 _) hl2 (Nat.le_refl _) 2 _) (first | (go_at_call 81; (with_reducible refine (fat_any A2 D.fl c2 D.count (w2.drew) (HT2.out.rd.below (Below.refl _ _).drew) (by omega)).mono ?_); rintro e w3 ⟨bb, rfl, hb3⟩; rw [HF.out]; have hb3' : Below w2.heap.size w2 w3 := below_of hb3 (Below.refl _ _).drew; have HB3 := Lib.hid hb3'; have hs3 := hb3'.size; have HS3 := Lib.hid (show HeldP w2 pd _ _ w3 from ⟨cell_later hb3' k4, cell_later hb3' k11, hb3'⟩); obtain ⟨pc3, A3, c3, h4⟩ := H2.out.below hb3'; obtain ⟨_, _, _, _, x4, _, _, _, _, _, x15, hl3⟩ := h4.cells; have f4 := h4.fz 4; have f15 := h4.fz 15; have hn3 : ¬ w3.heap.size = pd := (by omega); have hn2 : ¬ w2.heap.size = pd := (by omega)) | (go_at_call 81; (with_reducible refine (fat_any A2 D.fl c2 D.count ((w2.alloc (.cells #[.int .i64 0, .int .i64 0, .int .i64 0] 64)).drew) (HT2.out.rd.below ((Below.refl _ _).alloc (Nat.le_refl _) _).drew) (by omega)).mono ?_); rintro e w3 ⟨bb, rfl, hb3⟩; rw [HF.out]; have hb3' : Below w2.heap.size w2 w3 := below_of hb3 ((Below.refl _ _).alloc (Nat.le_refl _) _).drew; have HB3 := Lib.hid hb3'; have hs3 := hb3'.size; have HS3 := Lib.hid (show HeldP w2 pd _ _ w3 from ⟨cell_later hb3' k4, cell_later hb3' k11, hb3'⟩); obtain ⟨pc3, A3, c3, h4⟩ := H2.out.below hb3'; obtain ⟨_, _, _, _, x4, _, _, _, _, _, x15, hl3⟩ := h4.cells; have f4 := h4.fz 4; have f15 := h4.fz 15; obtain ⟨z0, z1, z2, y0, y1, y2⟩ := box3 (below_undrew hb3); have hz2 : w2.heap.size < w3.heap.size := World.block_lt_of_cell? _ _ z0; have hn3 : ¬ w3.heap.size = pd := (by omega); have hn2 : ¬ w2.heap.size = pd := (by omega)))
          all_goals (try go_wp2)
          all_goals go_ret
          all_goals first | exact ⟨rfl, begin_fin F2.out (begin_die2 H2.out P2.out (show Below w2.heap.size w2 w3 from HB3.out))⟩ | exact ⟨rfl, begin_finA F2.out (begin_die2 H2.out P2.out HB3.out)⟩ | exact ⟨rfl, begin_fin F2.out (begin_die2 H2.out P2.out (by repeat (first | (with_reducible exact Below.refl _ _) | (with_reducible refine Below.drew ?_) | (with_reducible refine below_drw ?_ _) | (with_reducible refine below_alloc ?_ _) | (with_reducible refine below_set ?_ (by simp <;> omega) _) | (refine below_of (by assumption) ?_))))⟩
        · by_cases h6 : D.flt.kind = 6
          · rw [Dsk.begin_slow hs hc rfl h6]
            obtain ⟨fa, fk, ft⟩ := f
            have hfk : fk = 6 := by rw [hf] at h6; exact h6
            subst hfk
            have HF := Lib.hid (show fltAt D.fl D.count = ⟨fa, 6, ft⟩ from hf)
            clear hs hc hE hf h7 h6
            go_enter Tryz.func51, Tryz.ntmps51
            go_wp2_with (first | (go_at_call 38; refine (dstate_any _ H.out HP.out).mono ?_; rintro e w1 ⟨rfl, hb⟩; rw [HS.out]; obtain ⟨pc, A, c, h1⟩ := H.out.below hb; obtain ⟨_, _, _, _, _, _, _, k12, _, _, _, hl⟩ := h1.cells; have H1 := Lib.hid (H.out.below hb); have P1 := Lib.hid (HP.out.below hb); have B1 := Lib.hid hb; clear h1 hb) | (go_at_call 80; refine (dcall_any _ P1.out hoff).mono ?_; rintro e w2 ⟨rfl, hP2, hF2⟩; rw [HC.out]; have h2 := H1.out.frP P1.out hF2; have H2 := Lib.hid h2; obtain ⟨pc2, A2, c2, h3⟩ := h2; obtain ⟨_, _, _, _, k4, _, k11, _, _, k14, _, hl2⟩ := h3.cells; have HT2 := Lib.hid h3.flts; have P2 := Lib.hid hP2; have F2 := Lib.hid ((FrG.ofBelow B1.out).trans (frG_pow P1.out hF2)); have HS2 := Lib.hid (show HeldP w2 pd _ _ w2.drew from ⟨k4, k11, (Below.refl _ _).drew⟩); clear hP2 hF2 h3))
            go_region_held3 (fun W_ => W_.cell? ⟨pd, 4, none⟩ = some (.int .i64 D.count) ∧ W_.cell? ⟨pd, 11, none⟩ = some (.slice A2 D.fl.length c2) ∧ Below w2.heap.size w2 W_) (first | assumption | exact HS2.out | exact HeldP.alloc HS2.out _ | exact HeldP.alloc HS3.out _ | exact HS3.out | exact HeldP.set (HeldP.set (HeldP.set HS3.out hl2 (Nat.le_refl _) 0 _) hl2 (Nat.le_refl _) 1 _) hl2 (Nat.le_refl _) 2 _) (first | (go_at_call 81; (with_reducible refine (fat_any A2 D.fl c2 D.count (w2.drew) (HT2.out.rd.below (Below.refl _ _).drew) (by omega)).mono ?_); rintro e w3 ⟨bb, rfl, hb3⟩; rw [HF.out]; have hb3' : Below w2.heap.size w2 w3 := below_of hb3 (Below.refl _ _).drew; have HB3 := Lib.hid hb3'; have hs3 := hb3'.size; have HS3 := Lib.hid (show HeldP w2 pd _ _ w3 from ⟨cell_later hb3' k4, cell_later hb3' k11, hb3'⟩); obtain ⟨pc3, A3, c3, h4⟩ := H2.out.below hb3'; obtain ⟨_, _, _, _, x4, _, _, _, _, _, x15, hl3⟩ := h4.cells; have f4 := h4.fz 4; have f15 := h4.fz 15; have hn3 : ¬ w3.heap.size = pd := (by omega); have hn2 : ¬ w2.heap.size = pd := (by omega)) | (go_at_call 81; (with_reducible refine (fat_any A2 D.fl c2 D.count ((w2.alloc (.cells #[.int .i64 0, .int .i64 0, .int .i64 0] 64)).drew) (HT2.out.rd.below ((Below.refl _ _).alloc (Nat.le_refl _) _).drew) (by omega)).mono ?_); rintro e w3 ⟨bb, rfl, hb3⟩; rw [HF.out]; have hb3' : Below w2.heap.size w2 w3 := below_of hb3 ((Below.refl _ _).alloc (Nat.le_refl _) _).drew; have HB3 := Lib.hid hb3'; have hs3 := hb3'.size; have HS3 := Lib.hid (show HeldP w2 pd _ _ w3 from ⟨cell_later hb3' k4, cell_later hb3' k11, hb3'⟩); obtain ⟨pc3, A3, c3, h4⟩ := H2.out.below hb3'; obtain ⟨_, _, _, _, x4, _, _, _, _, _, x15, hl3⟩ := h4.cells; have f4 := h4.fz 4; have f15 := h4.fz 15; obtain ⟨z0, z1, z2, y0, y1, y2⟩ := box3 (below_undrew hb3); have hz2 : w2.heap.size < w3.heap.size := World.block_lt_of_cell? _ _ z0; have hn3 : ¬ w3.heap.size = pd := (by omega); have hn2 : ¬ w2.heap.size = pd := (by omega)))
            all_goals (try go_wp2)
            all_goals go_ret
            all_goals first | exact ⟨rfl, begin_fin F2.out (begin_count2 H2.out P2.out (show Below w2.heap.size w2 w3 from HB3.out))⟩ | exact ⟨rfl, begin_finA F2.out (begin_count2 H2.out P2.out HB3.out)⟩ | exact ⟨rfl, begin_fin F2.out (begin_count2 H2.out P2.out (by repeat (first | (with_reducible exact Below.refl _ _) | (with_reducible refine Below.drew ?_) | (with_reducible refine below_drw ?_ _) | (with_reducible refine below_alloc ?_ _) | (with_reducible refine below_set ?_ (by simp <;> omega) _) | (refine below_of (by assumption) ?_))))⟩
          · rw [Dsk.begin_go hs hc rfl h7 h6] at hE
            exact absurd rfl hE
      · rw [Dsk.begin_key hs hc hk]
        have hkb : (key != D.key) = true := by simpa using hk
        clear hs hc hE hk
        go_enter Tryz.func51, Tryz.ntmps51
        go_wp2_with (first | (go_at_call 38; refine (dstate_any _ H.out HP.out).mono ?_; rintro e w1 ⟨rfl, hb⟩; rw [HS.out]; obtain ⟨pc, A, c, h1⟩ := H.out.below hb; obtain ⟨_, _, _, _, _, _, _, k12, _, _, _, hl⟩ := h1.cells; have H1 := Lib.hid (H.out.below hb); have P1 := Lib.hid (HP.out.below hb); have B1 := Lib.hid hb; clear h1 hb) | (go_at_call 80; refine (dcall_any _ P1.out hoff).mono ?_; rintro e w2 ⟨rfl, hP2, hF2⟩; rw [HC.out]; have h2 := H1.out.frP P1.out hF2; have H2 := Lib.hid h2; obtain ⟨pc2, A2, c2, h3⟩ := h2; obtain ⟨_, _, _, _, _, _, _, _, _, k14, _, hl2⟩ := h3.cells; have P2 := Lib.hid hP2; have F2 := Lib.hid ((FrG.ofBelow B1.out).trans (frG_pow P1.out hF2)); clear hP2 hF2 h3))
        go_ret
        exact ⟨rfl, H2.out, P2.out, F2.out⟩
  · rw [Dsk.begin_state hs]
    obtain ⟨x, hx⟩ : ∃ x, D.state P = x := ⟨_, rfl⟩
    have X1 : (x != 0) = true := by rw [hx] at hs; simpa using hs
    have HX := Lib.hid hx
    clear hs hx hE
    go_enter Tryz.func51, Tryz.ntmps51
    go_wp2_with (go_at_call 38; refine (dstate_any _ H.out HP.out).mono ?_; rintro e w1 ⟨rfl, hb⟩; rw [HX.out]; have B1 := Lib.hid hb; clear hb)
    go_ret
    exact ⟨by simp only; rw [HX.out] <;> rfl, H.out.below B1.out, HP.out.below B1.out, FrG.ofBelow B1.out⟩
end
end Go.Proofs.YtmloiifnadaaoaaGreat
