/- The walk of the reference's Valid for faults. -/
import Derived.Test.YtmloiifnadaaoaaGreatFltV
import Derived.IntWalk
namespace Go.Proofs.YtmloiifnadaaoaaGreat
open Go.RowKit
set_option linter.unusedVariables false
set_option linter.unusedSimpArgs false

theorem fltLast_ge {l : List Flt} (h : fltValid l = true) : -1 ≤ fltLast l := by
  unfold fltValid at h
  unfold fltLast
  suffices H : ∀ (l : List Flt) (last : Int), fltsOk last l = true → last ≤ l.foldl (fun _ f => f.at_) last from H l (-1) h
  intro l
  induction l with
  | nil => intro last _; simp
  | cons f l ih =>
    intro last h
    simp only [fltsOk, Bool.and_eq_true] at h
    have h1 := ih f.at_ h.2
    have h2 := h.1
    unfold Flt.ok at h2
    simp only [decide_eq_true_eq] at h2
    simp only [List.foldl_cons]
    omega

set_option maxHeartbeats 16000000 in
set_option maxRecDepth 1000000 in
theorem rfvalid_any (A : Option Addr) (l : List Flt) (c : Nat) (w : World) (h : FltsRd w A l) (hl : l.length ≤ 140737488351232) :
    Calls Tryz.prog 24 #[.slice A l.length c] w fun e w' => e = .returned (.bool (fltValid l)) ∧ Below w.heap.size w w' := by
  have H := Lib.hid h
  clear h
  go_enter Tryz.func24, Tryz.ntmps24
  go_wp2
  go_loopw [3] (fun i wr => ∃ j : Nat, j ≤ l.length ∧ i = .int .i64 j ∧ fltValid (l.take j) = true ∧ Below w.heap.size w wr) (fun i _ => l.length - (intOf i).toNat)
  case atStart => exact ⟨0, Nat.zero_le _, rfl, rfl, Below.refl _ _⟩
  case round =>
    obtain ⟨j, hj, rfl, hv, hb⟩ := hrel
    by_cases hjn : j < l.length
    · have hf : l[j]? = some l[j] := List.getElem?_eq_getElem hjn
      generalize l[j] = f at *
      obtain ⟨g, off, rfl, hg, k0, k1, k2⟩ := H.out.at_ hb hf
      have hbad := Lib.hid (fun h => fltValid_bad hf h)
      have hgood := Lib.hid (fun h => (fltValid_good hf hv h).1)
      have hgw : g < wr.heap.size := by have := hb.size; omega
      have hgn : ¬ g = wr.heap.size := by omega
      have hge := fltLast_ge hv
      obtain ⟨fa, fk, ft⟩ := f
      simp only at k0 k1 k2
      cases j with
      | zero =>
        have hz : fltLast (l.take 0) = -1 := rfl
        rw [hz] at hbad hgood hge
        clear hf hv hz
        have k0' : wr.cell? ⟨g, off, none⟩ = some (.int .i64 fa) := by simpa using k0
        have k1' : wr.cell? ⟨g, off + 1, none⟩ = some (.int .i64 fk) := by simpa using k1
        have k2' : wr.cell? ⟨g, off + 2, none⟩ = some (.int .i64 ft) := by simpa using k2
        go_wp2
        obtain ⟨W, hW⟩ : ∃ W, wr.alloc (.cells #[.int .i64 fa, .int .i64 fk, .int .i64 ft] 64) = W := ⟨_, rfl⟩
        rw [hW]
        have z0 : W.cell? ⟨wr.heap.size, 0, none⟩ = some (.int .i64 fa) := by rw [← hW, World.cell?_alloc_mark]; rfl
        have z1 : W.cell? ⟨wr.heap.size, 1, none⟩ = some (.int .i64 fk) := by rw [← hW, World.cell?_alloc_mark]; rfl
        have z2 : W.cell? ⟨wr.heap.size, 2, none⟩ = some (.int .i64 ft) := by rw [← hW, World.cell?_alloc_mark]; rfl
        have HW := Lib.hid (show Below w.heap.size w W from by rw [← hW]; exact below_alloc hb _)
        clear hW k0 k1 k2
        by_cases c0 : fa < 0
        · have HX := Lib.hid (hbad.out (Flt.ok_no (by simp only; omega)))
          refine wp_region_quiet_lit (by kernel_rfl) (by kernel_rfl) ?_
          repeat (go_big_quiet_step (fail))
          refine wpQuiet_nil ?_
          intro _ hw'
          obtain ⟨nq, hw''⟩ := hw'
          subst hw''
          go_wp2
          go_ret
          exact ⟨by rw [HX.out] <;> rfl, below_drw HW.out _⟩
        have d0 : decide (fa < 0) = false := by simpa using c0
        by_cases c2 : fk < 1
        · have HX := Lib.hid (hbad.out (Flt.ok_no (by simp only; omega)))
          refine wp_region_quiet_lit (by kernel_rfl) (by kernel_rfl) ?_
          repeat (go_big_quiet_step (fail))
          refine wpQuiet_nil ?_
          intro _ hw'
          obtain ⟨nq, hw''⟩ := hw'
          subst hw''
          go_wp2
          go_ret
          exact ⟨by rw [HX.out] <;> rfl, below_drw HW.out _⟩
        have d2 : decide (fk < 1) = false := by simpa using c2
        by_cases c3 : 7 < fk
        · have HX := Lib.hid (hbad.out (Flt.ok_no (by simp only; omega)))
          refine wp_region_quiet_lit (by kernel_rfl) (by kernel_rfl) ?_
          repeat (go_big_quiet_step (fail))
          refine wpQuiet_nil ?_
          intro _ hw'
          obtain ⟨nq, hw''⟩ := hw'
          subst hw''
          go_wp2
          go_ret
          exact ⟨by rw [HX.out] <;> rfl, below_drw HW.out _⟩
        have d3 : decide (7 < fk) = false := by simpa using c3
        by_cases c4 : ft < 0
        · have HX := Lib.hid (hbad.out (Flt.ok_no (by simp only; omega)))
          refine wp_region_quiet_lit (by kernel_rfl) (by kernel_rfl) ?_
          repeat (go_big_quiet_step (fail))
          refine wpQuiet_nil ?_
          intro _ hw'
          obtain ⟨nq, hw''⟩ := hw'
          subst hw''
          go_wp2
          go_ret
          exact ⟨by rw [HX.out] <;> rfl, below_drw HW.out _⟩
        have d4 : decide (ft < 0) = false := by simpa using c4
        by_cases c5 : ft = 0
        · subst c5
          have HX := Lib.hid (hgood.out (Flt.ok_yes ⟨by simp only; omega, by simp only; omega, by simp only; omega, by simp only; omega, .inl rfl⟩))
          refine wp_region_quiet_lit (by kernel_rfl) (by kernel_rfl) ?_
          repeat (go_big_quiet_step (fail))
          refine wpQuiet_nil ?_
          intro _ hw'
          obtain ⟨nq, hw''⟩ := hw'
          subst hw''
          go_wp2
          go_roundw
          case rel => exact ⟨1, by omega, by go_num, HX.out, below_drw HW.out _⟩
          case measure => simp [intOf]; omega
        have b5 : (ft != 0) = true := by simpa using c5
        by_cases c6 : fk = 3
        · subst c6
          have HX := Lib.hid (hgood.out (Flt.ok_yes ⟨by simp only; omega, by simp only; omega, by simp only; omega, by simp only; omega, .inr (.inl rfl)⟩))
          clear c5
          refine wp_region_quiet_lit (by kernel_rfl) (by kernel_rfl) ?_
          repeat (go_big_quiet_step (fail))
          refine wpQuiet_nil ?_
          intro _ hw'
          obtain ⟨nq, hw''⟩ := hw'
          subst hw''
          go_wp2
          go_roundw
          case rel => exact ⟨1, by omega, by go_num, HX.out, below_drw HW.out _⟩
          case measure => simp [intOf]; omega
        have b6 : (fk != 3) = true := by simpa using c6
        by_cases c7 : fk = 5
        · subst c7
          have HX := Lib.hid (hgood.out (Flt.ok_yes ⟨by simp only; omega, by simp only; omega, by simp only; omega, by simp only; omega, .inr (.inr rfl)⟩))
          clear c5
          refine wp_region_quiet_lit (by kernel_rfl) (by kernel_rfl) ?_
          repeat (go_big_quiet_step (fail))
          refine wpQuiet_nil ?_
          intro _ hw'
          obtain ⟨nq, hw''⟩ := hw'
          subst hw''
          go_wp2
          go_roundw
          case rel => exact ⟨1, by omega, by go_num, HX.out, below_drw HW.out _⟩
          case measure => simp [intOf]; omega
        have b7 : (fk != 5) = true := by simpa using c7
        have HX := Lib.hid (hbad.out (Flt.ok_no (by simp only; omega)))
        clear c5 c6 c7
        refine wp_region_quiet_lit (by kernel_rfl) (by kernel_rfl) ?_
        repeat (go_big_quiet_step (fail))
        refine wpQuiet_nil ?_
        intro _ hw'
        obtain ⟨nq, hw''⟩ := hw'
        subst hw''
        go_wp2
        go_ret
        exact ⟨by rw [HX.out] <;> rfl, below_drw HW.out _⟩
      | succ i =>
        have hi : l[i]? = some l[i] := List.getElem?_eq_getElem (by omega)
        have hla : fltLast (l.take (i + 1)) = l[i].at_ := by rw [List.take_succ_eq_append_getElem (by omega), fltLast_snoc]
        obtain ⟨g', off', hA', _, p0, _, _⟩ := H.out.at_ hb hi
        injection hA' with hA'
        injection hA' with e1 e2 _
        subst e1
        subst e2
        generalize l[i].at_ = last at *
        rw [hla] at hbad hgood hge
        clear hf hv hla hi
        have X1 : IntKind.i64.wrap (i : Int) = (i : Int) := by rw [IntWalk.i64_in _ (by omega)]
        have X2 : (0 : Int) ≤ (i : Int) := by omega
        have X3 : (i : Int) < (l.length : Int) := by omega
        go_wp2
        obtain ⟨W, hW⟩ : ∃ W, wr.alloc (.cells #[.int .i64 fa, .int .i64 fk, .int .i64 ft] 64) = W := ⟨_, rfl⟩
        rw [hW]
        have z0 : W.cell? ⟨wr.heap.size, 0, none⟩ = some (.int .i64 fa) := by rw [← hW, World.cell?_alloc_mark]; rfl
        have z1 : W.cell? ⟨wr.heap.size, 1, none⟩ = some (.int .i64 fk) := by rw [← hW, World.cell?_alloc_mark]; rfl
        have z2 : W.cell? ⟨wr.heap.size, 2, none⟩ = some (.int .i64 ft) := by rw [← hW, World.cell?_alloc_mark]; rfl
        have q0 : W.cell? ⟨g, off + i * 3, none⟩ = some (.int .i64 last) := by rw [← hW]; exact cell_later ((Below.refl _ _).alloc (Nat.le_refl _) _) p0
        have HW := Lib.hid (show Below w.heap.size w W from by rw [← hW]; exact below_alloc hb _)
        clear hW k0 k1 k2 p0
        by_cases c0 : fa < 0
        · have HX := Lib.hid (hbad.out (Flt.ok_no (by simp only; omega)))
          refine wp_region_quiet_lit (by kernel_rfl) (by kernel_rfl) ?_
          repeat (go_big_quiet_step (fail))
          refine wpQuiet_nil ?_
          intro _ hw'
          obtain ⟨nq, hw''⟩ := hw'
          subst hw''
          go_wp2
          go_ret
          exact ⟨by rw [HX.out] <;> rfl, below_drw HW.out _⟩
        have d0 : decide (fa < 0) = false := by simpa using c0
        by_cases c1 : fa ≤ last
        · have HX := Lib.hid (hbad.out (Flt.ok_no (by simp only; omega)))
          refine wp_region_quiet_lit (by kernel_rfl) (by kernel_rfl) ?_
          repeat (go_big_quiet_step (fail))
          refine wpQuiet_nil ?_
          intro _ hw'
          obtain ⟨nq, hw''⟩ := hw'
          subst hw''
          go_wp2
          go_ret
          exact ⟨by rw [HX.out] <;> rfl, below_drw HW.out _⟩
        have d1 : decide (fa ≤ last) = false := by simpa using c1
        by_cases c2 : fk < 1
        · have HX := Lib.hid (hbad.out (Flt.ok_no (by simp only; omega)))
          refine wp_region_quiet_lit (by kernel_rfl) (by kernel_rfl) ?_
          repeat (go_big_quiet_step (fail))
          refine wpQuiet_nil ?_
          intro _ hw'
          obtain ⟨nq, hw''⟩ := hw'
          subst hw''
          go_wp2
          go_ret
          exact ⟨by rw [HX.out] <;> rfl, below_drw HW.out _⟩
        have d2 : decide (fk < 1) = false := by simpa using c2
        by_cases c3 : 7 < fk
        · have HX := Lib.hid (hbad.out (Flt.ok_no (by simp only; omega)))
          refine wp_region_quiet_lit (by kernel_rfl) (by kernel_rfl) ?_
          repeat (go_big_quiet_step (fail))
          refine wpQuiet_nil ?_
          intro _ hw'
          obtain ⟨nq, hw''⟩ := hw'
          subst hw''
          go_wp2
          go_ret
          exact ⟨by rw [HX.out] <;> rfl, below_drw HW.out _⟩
        have d3 : decide (7 < fk) = false := by simpa using c3
        by_cases c4 : ft < 0
        · have HX := Lib.hid (hbad.out (Flt.ok_no (by simp only; omega)))
          refine wp_region_quiet_lit (by kernel_rfl) (by kernel_rfl) ?_
          repeat (go_big_quiet_step (fail))
          refine wpQuiet_nil ?_
          intro _ hw'
          obtain ⟨nq, hw''⟩ := hw'
          subst hw''
          go_wp2
          go_ret
          exact ⟨by rw [HX.out] <;> rfl, below_drw HW.out _⟩
        have d4 : decide (ft < 0) = false := by simpa using c4
        by_cases c5 : ft = 0
        · subst c5
          have HX := Lib.hid (hgood.out (Flt.ok_yes ⟨by simp only; omega, by simp only; omega, by simp only; omega, by simp only; omega, .inl rfl⟩))
          refine wp_region_quiet_lit (by kernel_rfl) (by kernel_rfl) ?_
          repeat (go_big_quiet_step (fail))
          refine wpQuiet_nil ?_
          intro _ hw'
          obtain ⟨nq, hw''⟩ := hw'
          subst hw''
          go_wp2
          go_roundw
          case rel => exact ⟨i + 1 + 1, by omega, by go_num, HX.out, below_drw HW.out _⟩
          case measure => simp [intOf]; omega
        have b5 : (ft != 0) = true := by simpa using c5
        by_cases c6 : fk = 3
        · subst c6
          have HX := Lib.hid (hgood.out (Flt.ok_yes ⟨by simp only; omega, by simp only; omega, by simp only; omega, by simp only; omega, .inr (.inl rfl)⟩))
          clear c5
          refine wp_region_quiet_lit (by kernel_rfl) (by kernel_rfl) ?_
          repeat (go_big_quiet_step (fail))
          refine wpQuiet_nil ?_
          intro _ hw'
          obtain ⟨nq, hw''⟩ := hw'
          subst hw''
          go_wp2
          go_roundw
          case rel => exact ⟨i + 1 + 1, by omega, by go_num, HX.out, below_drw HW.out _⟩
          case measure => simp [intOf]; omega
        have b6 : (fk != 3) = true := by simpa using c6
        by_cases c7 : fk = 5
        · subst c7
          have HX := Lib.hid (hgood.out (Flt.ok_yes ⟨by simp only; omega, by simp only; omega, by simp only; omega, by simp only; omega, .inr (.inr rfl)⟩))
          clear c5
          refine wp_region_quiet_lit (by kernel_rfl) (by kernel_rfl) ?_
          repeat (go_big_quiet_step (fail))
          refine wpQuiet_nil ?_
          intro _ hw'
          obtain ⟨nq, hw''⟩ := hw'
          subst hw''
          go_wp2
          go_roundw
          case rel => exact ⟨i + 1 + 1, by omega, by go_num, HX.out, below_drw HW.out _⟩
          case measure => simp [intOf]; omega
        have b7 : (fk != 5) = true := by simpa using c7
        have HX := Lib.hid (hbad.out (Flt.ok_no (by simp only; omega)))
        clear c5 c6 c7
        refine wp_region_quiet_lit (by kernel_rfl) (by kernel_rfl) ?_
        repeat (go_big_quiet_step (fail))
        refine wpQuiet_nil ?_
        intro _ hw'
        obtain ⟨nq, hw''⟩ := hw'
        subst hw''
        go_wp2
        go_ret
        exact ⟨by rw [HX.out] <;> rfl, below_drw HW.out _⟩
    · rw [List.take_of_length_le (by omega)] at hv
      have HV := Lib.hid hv
      clear hv
      go_wp2
      go_ret
      exact ⟨by rw [HV.out] <;> rfl, hb⟩
end Go.Proofs.YtmloiifnadaaoaaGreat
