/- The walk of the reference's begin: a fault's absence. -/
import Derived.Test.YtmloiifnadaaoaaGreatRDskW4
namespace Go.Proofs.YtmloiifnadaaoaaGreat
open Go.RowKit
set_option linter.unusedVariables false
set_option linter.unusedSimpArgs false

section
variable {G : Nat → Prop} {pd pp : Nat} {D : Dsk} {P : Pow}
set_option maxHeartbeats 16000000 in
set_option maxRecDepth 1000000 in
theorem rbegin_go (fa fk ft : Int) (w : World) (h : IsRDisk w G pd pp D) (hp : IsRPow w G pp P) (hfl : D.fl.length ≤ 1000000) (hs : D.state P = 0) (hc : P.call.off = false) (hf : D.flt = ⟨fa, fk, ft⟩) (h7 : fk ≠ 7) (h6 : fk ≠ 6) :
    Calls Tryz.prog 64 #[.pointer (some ⟨pd, 0, none⟩), .int .u64 D.key] w (RBegIs G pd pp (D.begin_ P D.key) w) := by
  rw [Dsk.begin_go hs hc rfl (by rw [hf]; exact h7) (by rw [hf]; exact h6), hf]
  have b7 : (fk == 7) = false := by simpa using h7
  have b6 : (fk == 6) = false := by simpa using h6
  clear h7 h6
  obtain ⟨pc, A, c, h0⟩ := h
  have hr : D.ready P = true := by
    cases hr : D.ready P with
    | true => rfl
    | false => rw [Dsk.state_ready (Dsk.state_zero hs).1, hr] at hs; cases hs
  have Hr := Lib.hid hr
  have HC := Lib.hid hc
  have hoff := (Dsk.state_zero hs).2.1
  have hdead := (Dsk.state_zero hs).1
  have I0 := RInv.start h0 hp
  have H0 := Lib.hid h0
  have HT := Lib.hid hp.hasP
  have HG := Lib.hid hp.1
  have I1 := Lib.hid (I0.alloc (.cells #[.int .i64 0, .int .i64 0, .int .i64 0] 64))
  have DD := Lib.hid (show IsRDisk _ G pd pp D from (show IsRDisk w G pd pp D from ⟨pc, A, c, h0⟩).below ((Below.refl _ _).alloc (Nat.le_refl _) (.cells #[.int .i64 0, .int .i64 0, .int .i64 0] 64)))
  have B1 := Lib.hid (Blank.new w)
  obtain ⟨k6, k7, _, k8, k9, k11, _, _, hl⟩ := I0.cells
  rw [hdead] at k9
  have hne : ¬ pd = w.heap.size := by omega
  have hpp : w.heap.size ≠ pp := by have := I0.lt.2.1; omega
  have HT0 := Lib.hid h0.flts
  have HF := Lib.hid (show fltAt D.fl D.count = ⟨fa, fk, ft⟩ from hf)
  clear h0 hp hs hc hr I0 hdead hf
  go_enter Tryz.func64, Tryz.ntmps64
  go_wp2_with (first | (go_at_call 69; refine (rready_any _ DD.out I1.out.pow).mono ?_; rintro e w1 ⟨rfl, hb⟩; rw [Hr.out]; have I2 := Lib.hid (I1.out.below hb); have B2 := Lib.hid (B1.out.below hb); obtain ⟨_, y7, _, _, _, _, _, _, hl1⟩ := I2.out.cells; clear hb) | (go_at_call 89; refine (rcall_any _ I2.out.pow hoff).mono ?_; rintro e w2 ⟨rfl, hP2, hF2⟩; rw [HC.out]; have i3 := I2.out.turn hF2 hP2; have I3 := Lib.hid i3; have B3 := Lib.hid (B2.out.fr hF2 hpp); obtain ⟨j6, _, _, j8, _, j11, _, _, hl2⟩ := i3.cells; have ht2 := i3.fr; have HT2 := Lib.hid (show FltsT w2 A D.fl from HT0.out.keepA ht2 (avoid_pp HT.out H0.out.hasD)); have HS2 := Lib.hid (show RHeldP w2 pd _ _ w2.drew from ⟨j11, j6, (Below.refl _ _).drew⟩); clear hP2 hF2 i3 ht2))
  go_region_held3 (fun W_ => W_.cell? ⟨pd, 11, none⟩ = some (.int .i64 D.count) ∧ W_.cell? ⟨pd, 6, none⟩ = some (.slice A D.fl.length c) ∧ Below w2.heap.size w2 W_) (first | assumption | exact HS2.out | exact RHeldP.alloc HS2.out _ | exact RHeldP.alloc HS3.out _ | exact HS3.out | exact RHeldP.set (RHeldP.set (RHeldP.set HS3.out hl2 (Nat.le_refl _) 0 _) hl2 (Nat.le_refl _) 1 _) hl2 (Nat.le_refl _) 2 _) (first | (go_at_call 90; (with_reducible refine (rfat_any A D.fl c D.count (w2.drew) (HT2.out.rd.below (Below.refl _ _).drew) (by omega)).mono ?_); rintro e w3 ⟨bb, rfl, hb3⟩; rw [HF.out]; have hb3' : Below w2.heap.size w2 w3 := below_of hb3 (Below.refl _ _).drew; have HB3 := Lib.hid hb3'; have HS3 := Lib.hid (show RHeldP w2 pd _ _ w3 from ⟨cell_later hb3' j11, cell_later hb3' j6, hb3'⟩); obtain ⟨i4, x11, f11, f9, x9, hl3, hz3, hs3, z0, z1, z2, y0, y1, y2, hz2, hl0⟩ := rbegin_facts I3.out B3.out hb3'; have I4 := Lib.hid i4; clear i4; have hn3 : ¬ w3.heap.size = pd := (by omega); have hn2 : ¬ w2.heap.size = pd := (by omega); have hm3 : ¬ w3.heap.size = w.heap.size := (by omega); have hm2 : ¬ w2.heap.size = w.heap.size := (by omega); have hm0 : ¬ pd = w.heap.size := (by omega)) | (go_at_call 90; (with_reducible refine (rfat_any A D.fl c D.count ((w2.alloc (.cells #[.int .i64 0, .int .i64 0, .int .i64 0] 64)).drew) (HT2.out.rd.below ((Below.refl _ _).alloc (Nat.le_refl _) _).drew) (by omega)).mono ?_); rintro e w3 ⟨bb, rfl, hb3⟩; rw [HF.out]; have hb3' : Below w2.heap.size w2 w3 := below_of hb3 ((Below.refl _ _).alloc (Nat.le_refl _) _).drew; have HB3 := Lib.hid hb3'; have HS3 := Lib.hid (show RHeldP w2 pd _ _ w3 from ⟨cell_later hb3' j11, cell_later hb3' j6, hb3'⟩); obtain ⟨i4, x11, f11, f9, x9, hl3, hz3, hs3, z0, z1, z2, y0, y1, y2, hz2, hl0⟩ := rbegin_facts I3.out B3.out hb3'; have I4 := Lib.hid i4; clear i4; have hn3 : ¬ w3.heap.size = pd := (by omega); have hn2 : ¬ w2.heap.size = pd := (by omega); have hm3 : ¬ w3.heap.size = w.heap.size := (by omega); have hm2 : ¬ w2.heap.size = w.heap.size := (by omega); have hm0 : ¬ pd = w.heap.size := (by omega); obtain ⟨v0, v1, v2, u0, u1, u2⟩ := box3 (below_undrew hb3); have hw2 : w2.heap.size < w3.heap.size := World.block_lt_of_cell? _ _ v0))
  all_goals (try go_wp2)
  all_goals refine bodyPost_ret (v := .tuple #[.agg #[.int .i64 fa, .int .i64 fk, .int .i64 ft], .int .i64 0]) (by simp [results, Tryz.results64, go_sem, z0, z1, z2, y0, y1, y2, hz3, hm3, hm2, hm0]) rfl ?_
  all_goals refine ⟨rfl, RInv.fin (D := D) ?_ H0.out HT.out HG.out rfl rfl rfl⟩
  all_goals (repeat (first | exact I4.out | refine RInv.setNew ?_ (Nat.le_refl _) _ | refine RInv.setNew ?_ (by simp only; omega) _ | refine RInv.die ?_ | refine RInv.count ?_ | refine RInv.alloc ?_ _ | refine RInv.drew ?_))
end
end Go.Proofs.YtmloiifnadaaoaaGreat
