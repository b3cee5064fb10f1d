/- The walk of perform, up to the work: erase. -/
import Derived.Test.YtmloiifnadaaoaaGreatDskVa
namespace Go.Proofs.YtmloiifnadaaoaaGreat
open Go.RowKit
set_option linter.unusedVariables false
set_option linter.unusedSimpArgs false

section
variable {G : Nat → Prop} {pd pp : Nat} {D : Dsk} {P : Pow}

set_option maxHeartbeats 8000000 in
set_option maxRecDepth 1000000 in
theorem dperform_erase (b0 b1 : Nat) (R : Int → World → Prop) (fa fk ft : Int) (w : World) (h : IsDisk w G pd pp D) (hp : IsPow w G pp P) (hfl : D.fl.length ≤ 1000000) (hs : D.state P = 0) (hc : P.call.off = false) (hf : D.flt = ⟨fa, fk, ft⟩) (h7 : fk ≠ 7) (h6 : fk ≠ 6)
    (hw : ∀ w1, IsDisk w1 G pd pp { D with count := inc D.count } → IsPow w1 G pp P.call → FrG G diskTs w w1 → Calls Tryz.prog 61 #[.agg #[.int .i64 fa, .int .i64 fk, .int .i64 ft], .pointer (some ⟨b0, 0, none⟩), .pointer (some ⟨b1, 0, none⟩)] w1 (WorkIs R)) :
    Calls Tryz.prog 51 #[.pointer (some ⟨pd, 0, none⟩), .int .u64 D.key, .func (.func 61) #[] #[.pointer (some ⟨b0, 0, none⟩), .pointer (some ⟨b1, 0, none⟩)]] w (WorkIs R) := by
  have H := Lib.hid h
  have HP := Lib.hid hp
  have HS := Lib.hid hs
  have HC := Lib.hid hc
  have HW := Lib.hid hw
  have hoff := (Dsk.state_zero hs).2.1
  have HF := Lib.hid (show fltAt D.fl D.count = ⟨fa, fk, ft⟩ from hf)
  have b7 : (fk == 7) = false := by simpa using h7
  have b6 : (fk == 6) = false := by simpa using h6
  clear h hp hs hc hf h7 h6 hw
  go_enter Tryz.func51, Tryz.ntmps51
  go_wp2_with (first | (go_at_call 38; refine (dstate_any _ H.out HP.out).mono ?_; rintro e w1 ⟨rfl, hb⟩; rw [HS.out]; obtain ⟨pc, A, c, h1⟩ := H.out.below hb; obtain ⟨_, _, _, _, _, _, _, k12, _, _, _, hl⟩ := h1.cells; have H1 := Lib.hid (H.out.below hb); have P1 := Lib.hid (HP.out.below hb); have B1 := Lib.hid hb; clear h1 hb) | (go_at_call 80; refine (dcall_any _ P1.out hoff).mono ?_; rintro e w2 ⟨rfl, hP2, hF2⟩; rw [HC.out]; have h2 := H1.out.frP P1.out hF2; have H2 := Lib.hid h2; obtain ⟨pc2, A2, c2, h3⟩ := h2; obtain ⟨_, _, _, _, k4, _, k11, _, _, k14, _, hl2⟩ := h3.cells; have HT2 := Lib.hid h3.flts; have P2 := Lib.hid hP2; have F2 := Lib.hid ((FrG.ofBelow B1.out).trans (frG_pow P1.out hF2)); have HS2 := Lib.hid (show HeldP w2 pd _ _ w2.drew from ⟨k4, k11, (Below.refl _ _).drew⟩); clear hP2 hF2 h3))
  go_region_held3 (fun W_ => W_.cell? ⟨pd, 4, none⟩ = some (.int .i64 D.count) ∧ W_.cell? ⟨pd, 11, none⟩ = some (.slice A2 D.fl.length c2) ∧ Below w2.heap.size w2 W_) (first | assumption | exact HS2.out | exact HeldP.alloc HS2.out _ | exact HeldP.alloc HS3.out _ | exact HS3.out | exact HeldP.set (HeldP.set (HeldP.set HS3.out hl2 (Nat.le_refl _) 0 _) hl2 (Nat.le_refl _) 1 _) hl2 (Nat.le_refl _) 2 _) (first | (go_at_call 81; (with_reducible refine (fat_any A2 D.fl c2 D.count (w2.drew) (HT2.out.rd.below (Below.refl _ _).drew) (by omega)).mono ?_); rintro e w3 ⟨bb, rfl, hb3⟩; rw [HF.out]; have hb3' : Below w2.heap.size w2 w3 := below_of hb3 (Below.refl _ _).drew; have HB3 := Lib.hid hb3'; have hs3 := hb3'.size; have HS3 := Lib.hid (show HeldP w2 pd _ _ w3 from ⟨cell_later hb3' k4, cell_later hb3' k11, hb3'⟩); obtain ⟨pc3, A3, c3, h4⟩ := H2.out.below hb3'; obtain ⟨_, _, _, _, x4, _, _, _, _, _, x15, hl3⟩ := h4.cells; have f4 := h4.fz 4; have f15 := h4.fz 15; have hn3 : ¬ w3.heap.size = pd := (by omega); have hn2 : ¬ w2.heap.size = pd := (by omega)) | (go_at_call 81; (with_reducible refine (fat_any A2 D.fl c2 D.count ((w2.alloc (.cells #[.int .i64 0, .int .i64 0, .int .i64 0] 64)).drew) (HT2.out.rd.below ((Below.refl _ _).alloc (Nat.le_refl _) _).drew) (by omega)).mono ?_); rintro e w3 ⟨bb, rfl, hb3⟩; rw [HF.out]; have hb3' : Below w2.heap.size w2 w3 := below_of hb3 ((Below.refl _ _).alloc (Nat.le_refl _) _).drew; have HB3 := Lib.hid hb3'; have hs3 := hb3'.size; have HS3 := Lib.hid (show HeldP w2 pd _ _ w3 from ⟨cell_later hb3' k4, cell_later hb3' k11, hb3'⟩); obtain ⟨pc3, A3, c3, h4⟩ := H2.out.below hb3'; obtain ⟨_, _, _, _, x4, _, _, _, _, _, x15, hl3⟩ := h4.cells; have f4 := h4.fz 4; have f15 := h4.fz 15; obtain ⟨z0, z1, z2, y0, y1, y2⟩ := box3 (below_undrew hb3); have hz2 : w2.heap.size < w3.heap.size := World.block_lt_of_cell? _ _ z0; have hn3 : ¬ w3.heap.size = pd := (by omega); have hn2 : ¬ w2.heap.size = pd := (by omega)))
  all_goals go_wp2_with (go_at_call 61; refine (work_at HW.out ?_).mono ?_; (first | exact begin_fin F2.out (begin_count2 H2.out P2.out (show Below w2.heap.size w2 w3 from HB3.out)) | exact begin_finA F2.out (begin_count2 H2.out P2.out HB3.out) | exact begin_fin F2.out (begin_count2 H2.out P2.out (by repeat (first | (with_reducible exact Below.refl _ _) | (with_reducible refine Below.drew ?_) | (with_reducible refine below_drw ?_ _) | (with_reducible refine below_alloc ?_ _) | (with_reducible refine below_set ?_ (by simp <;> omega) _) | (refine below_of (by assumption) ?_))))); rintro e w9 ⟨x9, rfl, hR⟩; have HR := Lib.hid hR; clear hR)
  all_goals go_ret
  all_goals exact ⟨x9, rfl, HR.out⟩
end
end Go.Proofs.YtmloiifnadaaoaaGreat
/- The walk of perform, up to the work: flush. -/
namespace Go.Proofs.YtmloiifnadaaoaaGreat
open Go.RowKit
set_option linter.unusedVariables false
set_option linter.unusedSimpArgs false

section
variable {G : Nat → Prop} {pd pp : Nat} {D : Dsk} {P : Pow}

set_option maxHeartbeats 8000000 in
set_option maxRecDepth 1000000 in
theorem dperform_flush (b0 : Nat) (R : Int → World → Prop) (fa fk ft : Int) (w : World) (h : IsDisk w G pd pp D) (hp : IsPow w G pp P) (hfl : D.fl.length ≤ 1000000) (hs : D.state P = 0) (hc : P.call.off = false) (hf : D.flt = ⟨fa, fk, ft⟩) (h7 : fk ≠ 7) (h6 : fk ≠ 6)
    (hw : ∀ w1, IsDisk w1 G pd pp { D with count := inc D.count } → IsPow w1 G pp P.call → FrG G diskTs w w1 → Calls Tryz.prog 63 #[.agg #[.int .i64 fa, .int .i64 fk, .int .i64 ft], .pointer (some ⟨b0, 0, none⟩)] w1 (WorkIs R)) :
    Calls Tryz.prog 51 #[.pointer (some ⟨pd, 0, none⟩), .int .u64 D.key, .func (.func 63) #[] #[.pointer (some ⟨b0, 0, none⟩)]] w (WorkIs R) := by
  have H := Lib.hid h
  have HP := Lib.hid hp
  have HS := Lib.hid hs
  have HC := Lib.hid hc
  have HW := Lib.hid hw
  have hoff := (Dsk.state_zero hs).2.1
  have HF := Lib.hid (show fltAt D.fl D.count = ⟨fa, fk, ft⟩ from hf)
  have b7 : (fk == 7) = false := by simpa using h7
  have b6 : (fk == 6) = false := by simpa using h6
  clear h hp hs hc hf h7 h6 hw
  go_enter Tryz.func51, Tryz.ntmps51
  go_wp2_with (first | (go_at_call 38; refine (dstate_any _ H.out HP.out).mono ?_; rintro e w1 ⟨rfl, hb⟩; rw [HS.out]; obtain ⟨pc, A, c, h1⟩ := H.out.below hb; obtain ⟨_, _, _, _, _, _, _, k12, _, _, _, hl⟩ := h1.cells; have H1 := Lib.hid (H.out.below hb); have P1 := Lib.hid (HP.out.below hb); have B1 := Lib.hid hb; clear h1 hb) | (go_at_call 80; refine (dcall_any _ P1.out hoff).mono ?_; rintro e w2 ⟨rfl, hP2, hF2⟩; rw [HC.out]; have h2 := H1.out.frP P1.out hF2; have H2 := Lib.hid h2; obtain ⟨pc2, A2, c2, h3⟩ := h2; obtain ⟨_, _, _, _, k4, _, k11, _, _, k14, _, hl2⟩ := h3.cells; have HT2 := Lib.hid h3.flts; have P2 := Lib.hid hP2; have F2 := Lib.hid ((FrG.ofBelow B1.out).trans (frG_pow P1.out hF2)); have HS2 := Lib.hid (show HeldP w2 pd _ _ w2.drew from ⟨k4, k11, (Below.refl _ _).drew⟩); clear hP2 hF2 h3))
  go_region_held3 (fun W_ => W_.cell? ⟨pd, 4, none⟩ = some (.int .i64 D.count) ∧ W_.cell? ⟨pd, 11, none⟩ = some (.slice A2 D.fl.length c2) ∧ Below w2.heap.size w2 W_) (first | assumption | exact HS2.out | exact HeldP.alloc HS2.out _ | exact HeldP.alloc HS3.out _ | exact HS3.out | exact HeldP.set (HeldP.set (HeldP.set HS3.out hl2 (Nat.le_refl _) 0 _) hl2 (Nat.le_refl _) 1 _) hl2 (Nat.le_refl _) 2 _) (first | (go_at_call 81; (with_reducible refine (fat_any A2 D.fl c2 D.count (w2.drew) (HT2.out.rd.below (Below.refl _ _).drew) (by omega)).mono ?_); rintro e w3 ⟨bb, rfl, hb3⟩; rw [HF.out]; have hb3' : Below w2.heap.size w2 w3 := below_of hb3 (Below.refl _ _).drew; have HB3 := Lib.hid hb3'; have hs3 := hb3'.size; have HS3 := Lib.hid (show HeldP w2 pd _ _ w3 from ⟨cell_later hb3' k4, cell_later hb3' k11, hb3'⟩); obtain ⟨pc3, A3, c3, h4⟩ := H2.out.below hb3'; obtain ⟨_, _, _, _, x4, _, _, _, _, _, x15, hl3⟩ := h4.cells; have f4 := h4.fz 4; have f15 := h4.fz 15; have hn3 : ¬ w3.heap.size = pd := (by omega); have hn2 : ¬ w2.heap.size = pd := (by omega)) | (go_at_call 81; (with_reducible refine (fat_any A2 D.fl c2 D.count ((w2.alloc (.cells #[.int .i64 0, .int .i64 0, .int .i64 0] 64)).drew) (HT2.out.rd.below ((Below.refl _ _).alloc (Nat.le_refl _) _).drew) (by omega)).mono ?_); rintro e w3 ⟨bb, rfl, hb3⟩; rw [HF.out]; have hb3' : Below w2.heap.size w2 w3 := below_of hb3 ((Below.refl _ _).alloc (Nat.le_refl _) _).drew; have HB3 := Lib.hid hb3'; have hs3 := hb3'.size; have HS3 := Lib.hid (show HeldP w2 pd _ _ w3 from ⟨cell_later hb3' k4, cell_later hb3' k11, hb3'⟩); obtain ⟨pc3, A3, c3, h4⟩ := H2.out.below hb3'; obtain ⟨_, _, _, _, x4, _, _, _, _, _, x15, hl3⟩ := h4.cells; have f4 := h4.fz 4; have f15 := h4.fz 15; obtain ⟨z0, z1, z2, y0, y1, y2⟩ := box3 (below_undrew hb3); have hz2 : w2.heap.size < w3.heap.size := World.block_lt_of_cell? _ _ z0; have hn3 : ¬ w3.heap.size = pd := (by omega); have hn2 : ¬ w2.heap.size = pd := (by omega)))
  all_goals go_wp2_with (go_at_call 63; refine (work_at HW.out ?_).mono ?_; (first | exact begin_fin F2.out (begin_count2 H2.out P2.out (show Below w2.heap.size w2 w3 from HB3.out)) | exact begin_finA F2.out (begin_count2 H2.out P2.out HB3.out) | exact begin_fin F2.out (begin_count2 H2.out P2.out (by repeat (first | (with_reducible exact Below.refl _ _) | (with_reducible refine Below.drew ?_) | (with_reducible refine below_drw ?_ _) | (with_reducible refine below_alloc ?_ _) | (with_reducible refine below_set ?_ (by simp <;> omega) _) | (refine below_of (by assumption) ?_))))); rintro e w9 ⟨x9, rfl, hR⟩; have HR := Lib.hid hR; clear hR)
  all_goals go_ret
  all_goals exact ⟨x9, rfl, HR.out⟩
end
end Go.Proofs.YtmloiifnadaaoaaGreat
