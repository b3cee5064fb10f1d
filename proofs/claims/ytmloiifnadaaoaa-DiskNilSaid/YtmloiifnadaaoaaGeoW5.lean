/- The walks of the reference of package geometry: Shadow; the example. -/
import Derived.Test.YtmloiifnadaaoaaGeoW4
namespace Go.Proofs.Ytmloiifnadaaoaa
open Go.RowKit
set_option linter.unusedVariables false
set_option linter.unusedSimpArgs false

namespace Geo
theorem shadow_no {g : Geo} {a : Int} (h : g.inBand a = false) : g.shadow a = [] := by unfold shadow nsh; rw [if_neg (by rw [h]; decide)]; rfl
theorem loc_err {g : Geo} {a : Int} (h : g.inBand a = false) : ∃ c, c ≠ 0 ∧ g.loc a = (0, 0, 0, c) := by
  unfold loc
  split
  · exact ⟨1, by decide, rfl⟩
  · exact ⟨2, by decide, by simp only [h, if_true]⟩
theorem nsh_o {g : Geo} {a : Int} (h : g.inBand a = true) : (g.nsh a : Int) ≤ g.o := by
  unfold nsh
  rw [if_pos h]
  have := (inBand_iff.1 h).1.o0
  have := place_bd h
  omega
/-- The address in the j-th track behind, if there is one. -/
theorem adr_shadow {g : Geo} {a : Int} (h : g.inBand a = true) (j : Nat) :
    g.adr (g.place a).1 ((g.place a).2.1 + ((j : Int) + 1)) (g.place a).2.2 = if (g.place a).2.1 + ((j : Int) + 1) < g.t then (a + ((j : Int) + 1) * g.s, 0) else (0, 2) := by
  obtain ⟨ho, _, _⟩ := inBand_iff.1 h
  obtain ⟨b0, b1, t0, t1, p0, p1⟩ := place_bd h
  split
  · rename_i hlt
    rw [adr_in ho ⟨b0, b1⟩ ⟨by omega, hlt⟩ ⟨p0, p1⟩]
    have := place_eq (a := a) ho
    have e : (g.place a).1 * g.t + ((g.place a).2.1 + ((j : Int) + 1)) = ((g.place a).1 * g.t + (g.place a).2.1) + ((j : Int) + 1) := by omega
    rw [e, Int.add_mul _ _ g.s]
    congr 1
    omega
  · rename_i hge
    rw [adr_out ho (fun hh => hge hh.2.1.2)]
end Geo

set_option maxHeartbeats 1000000 in
set_option maxRecDepth 1000000 in
theorem rshadow_any (r b t s o a : Int) (w : World) : Calls Try.prog 37 #[.agg #[.int .i64 r, .int .i64 b, .int .i64 t, .int .i64 s, .int .i64 o], .int .i64 a] w fun e w' =>
    ∃ v, e = .returned v ∧ IntsAt w' w.heap.size v ((Geo.mk r b t s o).shadow a) ∧ Below w.heap.size w w' := by
  cases hi : (Geo.mk r b t s o).inBand a with
  | false =>
    rw [Geo.shadow_no hi]
    obtain ⟨c, hc0, e1⟩ := Geo.loc_err hi
    have e2 := Lib.hid e1
    clear e1
    have hc1 : (c == 0) = false := by simp [hc0]
    go_enter Try.func37, Try.ntmps37
    go_wp2_with ((go_at_call 38; refine (rlocate_any _ _ _ _ _ _ _).mono ?_; rintro e w' ⟨rfl, hb⟩; rw [e2.out]; (first | ((first | have hB1 := below_of hb hB | have hB1 := below_of hb (Below.drew hB) | have hB1 := below_of hb (below_drw hB _)); clear hB hb hc hf hz; have hB := hB1; clear hB1; obtain ⟨hc, hf, hz⟩ := bcell hB) | ((first | have hB1 := below_of hb (below_alloc hB _) | have hB1 := below_of hb (below_alloc (below_alloc hB _) _) | have hB1 := below_of hb (below_alloc (below_alloc (below_alloc hB _) _) _) | have hB1 := below_of hb (below_alloc (below_alloc (below_alloc (below_alloc hB _) _) _) _) | have hB1 := below_of hb (below_alloc (below_alloc (below_alloc (below_alloc (below_alloc hB _) _) _) _) _) | have hB1 := below_of hb (Below.drew (below_alloc hB _)) | have hB1 := below_of hb (Below.drew (below_alloc (below_alloc hB _) _)) | have hB1 := below_of hb (Below.drew (below_alloc (below_alloc (below_alloc hB _) _) _)) | have hB1 := below_of hb (Below.drew (below_alloc (below_alloc (below_alloc (below_alloc hB _) _) _) _)) | have hB1 := below_of hb (Below.drew (below_alloc (below_alloc (below_alloc (below_alloc (below_alloc hB _) _) _) _) _)) | have hB1 := below_of hb (below_drw (below_alloc hB _) _) | have hB1 := below_of hb (below_drw (below_alloc (below_alloc hB _) _) _) | have hB1 := below_of hb (below_drw (below_alloc (below_alloc (below_alloc hB _) _) _) _) | have hB1 := below_of hb (below_drw (below_alloc (below_alloc (below_alloc (below_alloc hB _) _) _) _) _) | have hB1 := below_of hb (below_drw (below_alloc (below_alloc (below_alloc (below_alloc (below_alloc hB _) _) _) _) _) _)); clear hB hc hf hz; have hB := hB1; clear hB1; obtain ⟨hc, hf, hz⟩ := bcell hB; obtain ⟨hc_, hf_, hz_⟩ := bcell hb; clear hb) | (have hB := hb; clear hb; obtain ⟨hc, hf, hz⟩ := bcell hB))))
    refine wp_loop_rounds 1 ?_
    rw [rounds_succ]
    go_wp2
    go_ret
    exact ⟨_, rfl, World.ownsRow_nil _ _ _ _, (by repeat (first | (with_reducible exact Below.refl _ _) | (with_reducible refine Below.drew ?_) | (with_reducible refine below_drw ?_ _) | (with_reducible refine below_alloc ?_ _) | (with_reducible refine below_set ?_ (by simp <;> omega) _) | (refine below_of (by assumption) ?_)))⟩
  | true =>
    have e2 := Lib.hid (Geo.loc_in hi)
    have hlt := Lib.hid (Geo.nsh_lt hi)
    have had := Lib.hid (Geo.adr_shadow hi)
    have hno := Geo.nsh_o hi
    have htk := Lib.hid (fun j h => Geo.shadow_take (g := Geo.mk r b t s o) (a := a) (j := j) h)
    have hsh := Lib.hid (Geo.shadow_len (Geo.mk r b t s o) a)
    have hpl := Geo.place_bd hi
    obtain ⟨ho, _, _⟩ := Geo.inBand_iff.1 hi
    obtain ⟨r0, r1, b0, b1, t0, t1, s0, s1, o0, o1⟩ := ho
    obtain ⟨_, _, p0, p1, _, _⟩ := hpl
    simp only at t0 t1 o0 o1 p1 hno
    obtain ⟨i0, hinf, hz0, hz1, hz2⟩ := info_parts Try.info3
    generalize hN : (Geo.mk r b t s o).nsh a = N at *
    generalize hX : ((Geo.mk r b t s o).place a).1 = x at *
    generalize hP : ((Geo.mk r b t s o).place a).2.1 = p at *
    generalize hY : ((Geo.mk r b t s o).place a).2.2 = y at *
    generalize hS : (Geo.mk r b t s o).shadow a = S at *
    clear hN hX hP hY hS
    go_enter Try.func37, Try.ntmps37
    go_wp2_with ((go_at_call 38; refine (rlocate_any _ _ _ _ _ _ _).mono ?_; rintro e w' ⟨rfl, hb⟩; rw [e2.out]; (first | ((first | have hB1 := below_of hb hB | have hB1 := below_of hb (Below.drew hB) | have hB1 := below_of hb (below_drw hB _)); clear hB hb hc hf hz; have hB := hB1; clear hB1; obtain ⟨hc, hf, hz⟩ := bcell hB) | ((first | have hB1 := below_of hb (below_alloc hB _) | have hB1 := below_of hb (below_alloc (below_alloc hB _) _) | have hB1 := below_of hb (below_alloc (below_alloc (below_alloc hB _) _) _) | have hB1 := below_of hb (below_alloc (below_alloc (below_alloc (below_alloc hB _) _) _) _) | have hB1 := below_of hb (below_alloc (below_alloc (below_alloc (below_alloc (below_alloc hB _) _) _) _) _) | have hB1 := below_of hb (Below.drew (below_alloc hB _)) | have hB1 := below_of hb (Below.drew (below_alloc (below_alloc hB _) _)) | have hB1 := below_of hb (Below.drew (below_alloc (below_alloc (below_alloc hB _) _) _)) | have hB1 := below_of hb (Below.drew (below_alloc (below_alloc (below_alloc (below_alloc hB _) _) _) _)) | have hB1 := below_of hb (Below.drew (below_alloc (below_alloc (below_alloc (below_alloc (below_alloc hB _) _) _) _) _)) | have hB1 := below_of hb (below_drw (below_alloc hB _) _) | have hB1 := below_of hb (below_drw (below_alloc (below_alloc hB _) _) _) | have hB1 := below_of hb (below_drw (below_alloc (below_alloc (below_alloc hB _) _) _) _) | have hB1 := below_of hb (below_drw (below_alloc (below_alloc (below_alloc (below_alloc hB _) _) _) _) _) | have hB1 := below_of hb (below_drw (below_alloc (below_alloc (below_alloc (below_alloc (below_alloc hB _) _) _) _) _) _)); clear hB hc hf hz; have hB := hB1; clear hB1; obtain ⟨hc, hf, hz⟩ := bcell hB; obtain ⟨hc_, hf_, hz_⟩ := bcell hb; clear hb) | (have hB := hb; clear hb; obtain ⟨hc, hf, hz⟩ := bcell hB))))
    go_loopw [9, 10] (fun v k wr => ∃ j : Nat, j ≤ o ∧ k = .int .i64 ((j : Int) + 1) ∧ wr.ownsRow w'.heap.size 3 1 v (S.take j).length ((S.take j).map (Value.int .i64)) ∧ Below w'.heap.size w' wr)
      (fun _ k _ => 4 - (intOf k).toNat)
    case atStart => exact ⟨0, by omega, rfl, World.ownsRow_nil _ _ _ _, Below.refl _ _⟩
    case round =>
      obtain ⟨j, hj, rfl, hown, hbw⟩ := hrel
      obtain ⟨hc1, hf1, hz1'⟩ := bcell hbw
      have hl := hlt.out j
      have Had := Lib.hid (had.out j)
      by_cases hjo : (j : Int) + 1 ≤ o
      · by_cases hjn : j < N
        · have hk2 := (hl.2 hjn).2
          clear hl
          have e3 := Had.out
          rw [if_pos hk2] at e3
          have E3 := Lib.hid e3
          clear e3 Had
          go_wp2_with (first | (go_at_call 43; refine (raddress_any _ _ _ _ _ _ _ _ _).mono ?_; rintro e w2 ⟨rfl, hb2⟩; rw [E3.out]; have hbw2 := below_of hb2 hbw; have hown2 := owns_below hb2 hown; clear hown hc1 hf1 hz1'; obtain ⟨hc2, hf2, hz2'⟩ := bcell hbw2) | (at_builtin; refine wpList_append_own _ rfl _ _ 28 rfl w'.heap.size 3 i0 (.int .i64 0) 1 8 Try.underlying28 hinf hz0 hz1 hz2 rfl (by decide) _ _ _ rfl (hown2.alloc _) ⟨w2.heap.size, 0, none⟩ 1 1 [.int .i64 (a + ((j : Int) + 1) * s)] rfl rfl (one_cell_new _ _ _) ?c2 ?c3 ?c4 ?c5 ?_))
          case c2 => intro u hu; simp at hu; subst hu; rfl
          case c3 => rw [List.length_take]; unfold maxLen; omega
          case c4 => rw [List.length_take]; omega
          case c5 => have := hbw2.size; simp; omega
          intro v' w3 hown' hgrow _
          have hbw3 : Below w'.heap.size w' w3 := (hbw2.alloc hbw2.size _).grown hgrow (by have := hbw2.size; simp; omega) (fun k hk => (hown2.lt k hk).1)
          have hown3 : w3.ownsRow w'.heap.size 3 1 v' (S.take (j + 1)).length ((S.take (j + 1)).map (Value.int .i64)) := by
            rw [htk.out j hjn, List.length_append, List.map_append]
            simpa [List.map_take] using hown'
          clear hown' hgrow hown2
          go_wp2
          go_roundw
          case rel => exact ⟨j + 1, by omega, by go_num, hown3, hbw3⟩
          case measure => simp [intOf]; omega
        · have hk2 : ¬ p + ((j : Int) + 1) < t := fun h => hjn (hl.1 ⟨hjo, h⟩)
          clear hl
          have e3 := Had.out
          rw [if_neg hk2] at e3
          have E3 := Lib.hid e3
          clear e3 Had
          have htot : S.take (j + 1) = S.take j := by
            have := hsh.out
            rw [List.take_of_length_le (by omega), List.take_of_length_le (by omega)]
          have Htot := Lib.hid htot
          clear htot
          have Hown := Lib.hid hown
          clear hown
          go_wp2_with (first | (go_at_call 43; refine (raddress_any _ _ _ _ _ _ _ _ _).mono ?_; rintro e w2 ⟨rfl, hb2⟩; rw [E3.out]; have hbw2 := below_of hb2 hbw; clear hc1 hf1 hz1'; obtain ⟨hc2, hf2, hz2'⟩ := bcell hbw2))
          go_roundw
          case rel => exact ⟨j + 1, by omega, by go_num, by rw [Htot.out]; exact owns_below hb2 Hown.out, hbw2⟩
          case measure => simp [intOf]; omega
      · have htot : S.take j = S := by
          have := hsh.out
          exact List.take_of_length_le (by omega)
        rw [htot] at hown
        have Hown := Lib.hid hown
        clear hown htot hl
        go_wp2_with fail
        go_ret
        exact ⟨_, rfl, owns_mono (by have := hB.size; simp at this; omega) Hown.out, (by repeat (first | (with_reducible exact Below.refl _ _) | (with_reducible refine Below.drew ?_) | (with_reducible refine below_drw ?_ _) | (with_reducible refine below_alloc ?_ _) | (with_reducible refine below_set ?_ (by simp <;> omega) _) | (refine below_of (by assumption) ?_)))⟩
end Go.Proofs.Ytmloiifnadaaoaa
