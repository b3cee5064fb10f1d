/- The walks of package geometry, the third part: Shadow. -/
import Derived.Test.YtmloiifnadaaoaaGeoW2
namespace Go.Proofs.Ytmloiifnadaaoaa
open Go.RowKit
set_option linter.unusedVariables false
set_option linter.unusedSimpArgs false

theorem Try.info3 : (Try.prog.info? 3).map (fun i => (i.zero, i.size, i.bytes)) = some (some (.int .i64 0), 1, 8) := by kernel_rfl

theorem owns_mono {w : World} {b b' : Nat} (h : b' ≤ b) {e : TypeId} {size : Nat} {v : Value} {n : Nat} {xs : List Value} (ho : w.ownsRow b e size v n xs) : w.ownsRow b' e size v n xs := by
  refine ⟨ho.1, ?_⟩
  rcases ho.2 with h2 | ⟨g, cap, cur, hv, hg, r⟩
  · exact .inl h2
  · exact .inr ⟨g, cap, cur, hv, Nat.le_trans h hg, r⟩

/-- A list of ints that a call made. -/
def IntsAt (w : World) (base : Nat) (v : Value) (l : List Int) : Prop := w.ownsRow base 3 1 v l.length (l.map (Value.int .i64))

theorem one_cell_new (w : World) (u : Value) (t : TypeId) : ∀ j x, [u][j]? = some x → (w.alloc (.cells #[u] t)).cell? ((⟨w.heap.size, 0, none⟩ : Addr).add j) = some x := by
  intro j x hj
  match j, hj with
  | 0, hj =>
    have : u = x := by simpa using hj
    subst this
    rw [Addr.add_lit, World.cell?_alloc_at _ _ _ _ (by simp)]
    rfl

namespace Geo
theorem shadow_take {g : Geo} {a : Int} {j : Nat} (h : j < g.nsh a) : (g.shadow a).take (j + 1) = (g.shadow a).take j ++ [a + ((j : Int) + 1) * g.s] := by
  unfold shadow
  rw [List.take_succ_eq_append_getElem (by simpa using h)]
  simp
theorem shadow_len (g : Geo) (a : Int) : (g.shadow a).length = g.nsh a := by simp [shadow]
theorem nsh_lt {g : Geo} {a : Int} (h : g.inBand a = true) (j : Nat) : (j : Int) + 1 ≤ g.o ∧ (g.place a).2.1 + ((j : Int) + 1) < g.t ↔ j < g.nsh a := by
  unfold nsh
  rw [if_pos h]
  have := (inBand_iff.1 h).1.o0
  have := place_bd h
  omega
end Geo

set_option maxHeartbeats 1000000 in
set_option maxRecDepth 1000000 in
theorem shadow_any (r b t s o a : Int) (w : World) : Calls Try.prog 36 #[.agg #[.int .i64 r, .int .i64 b, .int .i64 t, .int .i64 s, .int .i64 o], .int .i64 a] w fun e w' =>
    ∃ v, e = .returned v ∧ IntsAt w' w.heap.size v ((Geo.mk r b t s o).shadow a) ∧ Below w.heap.size w w' := by
  cases hi : (Geo.mk r b t s o).inBand a with
  | false =>
    have e0 : (Geo.mk r b t s o).shadow a = [] := by unfold Geo.shadow Geo.nsh; rw [if_neg (by rw [hi]; decide)]; rfl
    rw [e0]
    clear e0
    have e1 : ∃ c, c ≠ 0 ∧ (Geo.mk r b t s o).loc a = (0, 0, 0, c) := by
      unfold Geo.loc
      split
      · exact ⟨1, by decide, rfl⟩
      · exact ⟨2, by decide, by simp only [hi, if_true]⟩
    obtain ⟨c, hc0, e1⟩ := e1
    have e2 := Lib.hid e1
    clear e1
    go_enter Try.func36, Try.ntmps36
    go_wp2_with ((go_at_call 39; refine (locate_any _ _ _ _ _ _ _).mono ?_; rintro e w' ⟨rfl, hb⟩); rw [e2.out]; obtain ⟨hc, hf, hz⟩ := bcell hb)
    go_ret
    exact ⟨_, rfl, World.ownsRow_nil _ _ _ _, (by repeat (first | (with_reducible exact Below.refl _ _) | (with_reducible refine Below.drew ?_) | (with_reducible refine below_drw ?_ _) | (with_reducible refine below_alloc ?_ _) | (with_reducible refine below_set ?_ (by simp <;> omega) _) | (refine below_of (by assumption) ?_)))⟩
  | true =>
    have e1 : (Geo.mk r b t s o).loc a = (((Geo.mk r b t s o).place a).1, ((Geo.mk r b t s o).place a).2.1, ((Geo.mk r b t s o).place a).2.2, 0) := by
      unfold Geo.loc; rw [if_neg (by rw [Geo.ok_iff.2 (Geo.inBand_iff.1 hi).1]; decide), if_neg (by rw [hi]; decide)]
    have e2 := Lib.hid e1
    clear e1
    have hlt := Lib.hid (Geo.nsh_lt hi)
    have htk := Lib.hid (fun j h => Geo.shadow_take (g := Geo.mk r b t s o) (a := a) (j := j) h)
    have hle := Geo.nsh_le (Geo.mk r b t s o) a
    have hpl := Geo.place_bd hi
    have hle2 : (Geo.mk r b t s o).size ≤ 81920 := (Geo.size_bd _).2
    obtain ⟨ho, ha0, ha1⟩ := Geo.inBand_iff.1 hi
    have hbt := ho.bts
    obtain ⟨r0, r1, b0, b1, t0, t1, s0, s1, o0, o1⟩ := ho
    obtain ⟨_, _, p0, p1, _, _⟩ := hpl
    simp only at r0 r1 b0 b1 t0 t1 s0 s1 o0 o1 p1 ha0 ha1 hbt
    have hsh := Lib.hid (Geo.shadow_len (Geo.mk r b t s o) a)
    obtain ⟨i0, hinf, hz0, hz1, hz2⟩ := info_parts Try.info3
    generalize hN : (Geo.mk r b t s o).nsh a = N at *
    generalize hP : ((Geo.mk r b t s o).place a).2.1 = p at *
    generalize hS : (Geo.mk r b t s o).shadow a = S at *
    clear hN hS
    clear hP
    go_enter Try.func36, Try.ntmps36
    go_wp2_with ((go_at_call 39; refine (locate_any _ _ _ _ _ _ _).mono ?_; rintro e w' ⟨rfl, hb⟩); rw [e2.out]; obtain ⟨hc, hf, hz⟩ := bcell hb)
    go_loopw [9, 10] (fun v k wr => ∃ j : Nat, j ≤ N ∧ k = .int .i64 ((j : Int) + 1) ∧ wr.ownsRow w'.heap.size 3 1 v (S.take j).length ((S.take j).map (Value.int .i64)) ∧ Below w'.heap.size w' wr)
      (fun _ k _ => N + 1 - (intOf k).toNat)
    case atStart => exact ⟨0, Nat.zero_le _, rfl, World.ownsRow_nil _ _ _ _, Below.refl _ _⟩
    case round =>
      obtain ⟨j, hj, rfl, hown, hbw⟩ := hrel
      obtain ⟨hc1, hf1, hz1'⟩ := bcell hbw
      have hl := hlt.out j
      by_cases hjn : j < N
      · have hk := hl.2 hjn
        obtain ⟨hk1, hk2⟩ := hk
        clear hl
        have hm0 : 0 ≤ ((j : Int) + 1) * s := Int.mul_nonneg (by omega) (by omega)
        have hm1 : ((j : Int) + 1) * s ≤ 3 * 64 := Int.mul_le_mul (by omega) s1 (by omega) (by omega)
        go_wp2_with (at_builtin; refine wpList_append_own _ rfl _ _ 28 rfl w'.heap.size 3 i0 (.int .i64 0) 1 8 Try.underlying28 hinf hz0 hz1 hz2 rfl (by decide) _ _ _ rfl (hown.alloc _) ⟨wr.heap.size, 0, none⟩ 1 1 [.int .i64 (a + ((j : Int) + 1) * s)] rfl rfl (one_cell_new _ _ _) ?c2 ?c3 ?c4 ?c5 ?_)
        case c2 => intro u hu; simp at hu; subst hu; rfl
        case c3 => rw [List.length_take]; unfold maxLen; omega
        case c4 => rw [List.length_take]; omega
        case c5 => have := hbw.size; simp; omega
        intro v' w2 hown' hgrow _
        have hbw2 : Below w'.heap.size w' w2 := (hbw.alloc hbw.size _).grown hgrow (by have := hbw.size; simp; omega) (fun k hk => (hown.lt k hk).1)
        have hown2 : w2.ownsRow w'.heap.size 3 1 v' (S.take (j + 1)).length ((S.take (j + 1)).map (Value.int .i64)) := by
          rw [htk.out j hjn, List.length_append, List.map_append]
          simpa [List.map_take] using hown'
        clear hown' hgrow hown
        go_wp2
        go_roundw
        case rel => exact ⟨j + 1, by omega, by go_num, hown2, hbw2⟩
        case measure => simp [intOf]; omega
      · have hkn := fun h => hjn (hl.1 h)
        clear hl
        have hjN : j = N := by omega
        have htot : S.take j = S := by rw [hjN, ← hsh.out]; exact List.take_length
        rw [htot] at hown
        have Hown := Lib.hid hown
        clear hown htot hjN
        go_wp2_with fail
        all_goals first
          | (exact absurd ⟨by assumption, by assumption⟩ hkn)
          | (go_ret; exact ⟨_, rfl, owns_mono (by have := hb.size; simp at this; omega) Hown.out, (by repeat (first | (with_reducible exact Below.refl _ _) | (with_reducible refine Below.drew ?_) | (with_reducible refine below_drw ?_ _) | (with_reducible refine below_alloc ?_ _) | (with_reducible refine below_set ?_ (by simp <;> omega) _) | (refine below_of (by assumption) ?_)))⟩)
end Go.Proofs.Ytmloiifnadaaoaa
