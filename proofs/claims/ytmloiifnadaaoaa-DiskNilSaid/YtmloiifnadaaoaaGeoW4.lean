/- The walks of the reference of package geometry: Ints, Locate, Shadow. -/
import Derived.Test.YtmloiifnadaaoaaGeoW3
namespace Go.Proofs.Ytmloiifnadaaoaa
open Go.RowKit
set_option linter.unusedVariables false
set_option linter.unusedSimpArgs false

/-- The cells behind A read as the ints l. -/
def IntsRd (w : World) (A : Option Addr) (l : List Int) : Prop :=
  l.length ≤ 9223372036854775807 ∧ (l = [] ∨ ∃ g off, A = some ⟨g, off, none⟩ ∧ ∀ i x, l[i]? = some x → w.cell? ⟨g, off + i, none⟩ = some (.int .i64 x))

theorem intsRd_of {w : World} {base : Nat} {v : Value} {l : List Int} (h : IntsAt w base v l) : ∃ A c, v = .slice A l.length c ∧ IntsRd w A l := by
  rcases h.2 with ⟨rfl, hn⟩ | ⟨g, cap, cur, rfl, _, hg, hn, hcap, hcur, htk⟩
  · exact ⟨none, 0, by rw [hn], by rw [hn]; omega, .inl (List.eq_nil_of_length_eq_zero hn)⟩
  · refine ⟨some ⟨g, 0, none⟩, cap, rfl, by simp only [maxLen] at hcap; omega, .inr ⟨g, 0, rfl, fun i x hx => ?_⟩⟩
    rw [cell_of_row w g _ cur _ _ hg]
    have : (l.map (Value.int .i64))[i]? = some (.int .i64 x) := by rw [List.getElem?_map, hx]; rfl
    rw [← htk, List.getElem?_take] at this
    split at this
    · simpa using this
    · cases this

theorem intsRd_keep {w w' : World} (hb : Below w.heap.size w w') {A : Option Addr} {l : List Int} (h : IntsRd w A l) : IntsRd w' A l := by
  refine ⟨h.1, h.2.imp id ?_⟩
  rintro ⟨g, off, rfl, hc⟩
  exact ⟨g, off, rfl, fun i x hx => cell_later hb (hc i x hx)⟩

def sameInts (l k : List Int) : Bool := decide (l = k)

set_option maxHeartbeats 1000000 in
set_option maxRecDepth 1000000 in
theorem ints_any (A B : Option Addr) (c d : Nat) (l k : List Int) (w : World) (hl : IntsRd w A l) (hk : IntsRd w B k) :
    Calls Try.prog 35 #[.slice A l.length c, .slice B k.length d] w fun e w' => e = .returned (.bool (sameInts l k)) ∧ Below w.heap.size w w' := by
  by_cases hn : l.length = k.length
  · obtain ⟨hm, hl⟩ := hl
    obtain ⟨_, hk⟩ := hk
    by_cases he : l = []
    · subst he
      have hk0 : k = [] := List.eq_nil_of_length_eq_zero hn.symm
      subst hk0
      clear hn hl hk hm
      go_enter Try.func35, Try.ntmps35
      go_wp2
      refine wp_loop_rounds 1 ?_
      rw [rounds_succ]
      go_wp2
      go_ret
      exact ⟨rfl, (by repeat (first | (with_reducible exact Below.refl _ _) | (with_reducible refine Below.drew ?_) | (with_reducible refine below_drw ?_ _) | (with_reducible refine below_alloc ?_ _) | (with_reducible refine below_set ?_ (by simp <;> omega) _) | (refine below_of (by assumption) ?_)))⟩
    · have hke : k ≠ [] := fun h => he (List.eq_nil_of_length_eq_zero (by rw [hn, h]; rfl))
      obtain ⟨g, off, rfl, hcl⟩ := hl.resolve_left he
      obtain ⟨g', off', rfl, hck⟩ := hk.resolve_left hke
      clear hl hk he hke
      have Hcl := Lib.hid hcl
      have Hck := Lib.hid hck
      have Hn := Lib.hid hn
      have hn2 : k.length ≤ l.length := by omega
      have hn3 : l.length ≤ k.length := by omega
      have htest : ((l.length : Int) != (k.length : Int)) = false := by simp [hn]
      clear hcl hck hn
      go_enter Try.func35, Try.ntmps35
      go_wp2
      go_loopw [5] (fun i wr => ∃ j : Nat, j ≤ l.length ∧ i = .int .i64 j ∧ l.take j = k.take j ∧ Below w.heap.size w wr) (fun i _ => l.length - (intOf i).toNat)
      case atStart => exact ⟨0, Nat.zero_le _, rfl, rfl, Below.refl _ _⟩
      case round =>
        obtain ⟨j, hj, rfl, htk, hb⟩ := hrel
        have Htk := Lib.hid htk
        clear htk
        by_cases hjl : j < l.length
        · obtain ⟨x, hx⟩ : ∃ x, l[j]? = some x := ⟨l[j], List.getElem?_eq_getElem hjl⟩
          obtain ⟨y, hy⟩ : ∃ y, k[j]? = some y := ⟨k[j], List.getElem?_eq_getElem (by omega)⟩
          have c1 := cell_later hb (Hcl.out j x hx)
          have c2 := cell_later hb (Hck.out j y hy)
          have Hx := Lib.hid hx
          have Hy := Lib.hid hy
          clear hx hy
          by_cases hxy : x = y
          · subst hxy
            go_wp2
            go_quiet (fail)
            go_wp2
            go_roundw
            case rel => exact ⟨j + 1, by omega, by go_num, by rw [List.take_add_one, List.take_add_one, Htk.out, Hx.out, Hy.out], below_drw hb _⟩
            case measure => simp [intOf]; omega
          · have hb1 : (x != y) = true := by simp [hxy]
            go_wp2
            go_quiet (fail)
            go_wp2
            go_ret
            have : sameInts l k = false := by
              simp only [sameInts, decide_eq_false_iff_not]
              intro h
              have h1 := Hx.out
              rw [h, Hy.out] at h1
              exact hxy (by injection h1 with h1; exact h1.symm)
            exact ⟨by rw [this]; rfl, below_drw hb _⟩
        · go_wp2
          go_ret
          have : sameInts l k = true := by
            simp only [sameInts, decide_eq_true_eq]
            have h := Htk.out
            rwa [List.take_of_length_le (by omega), List.take_of_length_le (by omega)] at h
          exact ⟨by rw [this]; rfl, hb⟩
  · have : sameInts l k = false := by simp only [sameInts, decide_eq_false_iff_not]; intro h; exact hn (by rw [h])
    rw [this]
    have htest : ((l.length : Int) != (k.length : Int)) = true := by simp; omega
    clear this hl hk
    go_enter Try.func35, Try.ntmps35
    go_wp2
    go_ret
    exact ⟨rfl, (by repeat (first | (with_reducible exact Below.refl _ _) | (with_reducible refine Below.drew ?_) | (with_reducible refine below_drw ?_ _) | (with_reducible refine below_alloc ?_ _) | (with_reducible refine below_set ?_ (by simp <;> omega) _) | (refine below_of (by assumption) ?_)))⟩

namespace Geo
theorem loc_in {g : Geo} {a : Int} (h : g.inBand a = true) : g.loc a = ((g.place a).1, (g.place a).2.1, (g.place a).2.2, 0) := by
  unfold loc; rw [if_neg (by rw [ok_iff.2 (inBand_iff.1 h).1]; decide), if_neg (by rw [h]; decide)]
theorem loc_out {g : Geo} {a : Int} (ho : g.Ok) (h : g.inBand a = false) : g.loc a = (0, 0, 0, 2) := by
  unfold loc; rw [if_neg (by rw [ok_iff.2 ho]; decide), if_pos h]
theorem loc_no {g : Geo} (a : Int) (h : g.ok = false) : g.loc a = (0, 0, 0, 1) := by unfold loc; rw [if_pos h]
end Geo

set_option maxHeartbeats 2000000 in
theorem rlocate_any (r b t s o a : Int) (w : World) : Calls Try.prog 38 #[.agg #[.int .i64 r, .int .i64 b, .int .i64 t, .int .i64 s, .int .i64 o], .int .i64 a] w fun e w' =>
    e = .returned (.tuple #[.int .i64 ((Geo.mk r b t s o).loc a).1, .int .i64 ((Geo.mk r b t s o).loc a).2.1, .int .i64 ((Geo.mk r b t s o).loc a).2.2.1, .int .i64 ((Geo.mk r b t s o).loc a).2.2.2]) ∧ Below w.heap.size w w' := by
  cases hv : (Geo.mk r b t s o).ok with
  | false =>
    rw [Geo.loc_no a hv]
    go_enter Try.func38, Try.ntmps38
    go_wp2_with ((go_at_call 30; refine (rvalid_any _ _ _ _ _ _).mono ?_; rintro e w' ⟨rfl, hb⟩); obtain ⟨hc, hf, hz⟩ := bcell hb)
    refine bodyPost_ret (results_tmp4 rfl _ _ _) rfl ?_
    exact ⟨rfl, (by repeat (first | (with_reducible exact Below.refl _ _) | (with_reducible refine Below.drew ?_) | (with_reducible refine below_drw ?_ _) | (with_reducible refine below_alloc ?_ _) | (with_reducible refine below_set ?_ (by simp <;> omega) _) | (refine below_of (by assumption) ?_)))⟩
  | true =>
    have ho := Geo.ok_iff.1 hv
    have hsz := Lib.hid (Geo.size_ok ho)
    have hbs := Lib.hid (Geo.bs_ok ho)
    cases hi : (Geo.mk r b t s o).inBand a with
    | false =>
      rw [Geo.loc_out ho hi]
      have hw : ¬ (r ≤ a ∧ a < r + b * (t * s)) := fun h => by rw [Geo.inBand_iff.2 ⟨ho, h.1, h.2⟩] at hi; cases hi
      by_cases hra : a < r
      · go_enter Try.func38, Try.ntmps38
        go_wp2_with ((go_at_call 30; refine (rvalid_any _ _ _ _ _ _).mono ?_; rintro e w' ⟨rfl, hb⟩); obtain ⟨hc, hf, hz⟩ := bcell hb)
        refine bodyPost_ret (results_tmp4 rfl _ _ _) rfl ?_
        exact ⟨rfl, (by repeat (first | (with_reducible exact Below.refl _ _) | (with_reducible refine Below.drew ?_) | (with_reducible refine below_drw ?_ _) | (with_reducible refine below_alloc ?_ _) | (with_reducible refine below_set ?_ (by simp <;> omega) _) | (refine below_of (by assumption) ?_)))⟩
      · have hge : r + b * (t * s) ≤ a := by omega
        clear hw
        go_enter Try.func38, Try.ntmps38
        go_wp2_with (first | (go_at_call 30; refine (rvalid_any _ _ _ _ _ _).mono ?_; rintro e w' ⟨rfl, hb⟩; (first | ((first | have hB1 := below_of hb hB | have hB1 := below_of hb (Below.drew hB) | have hB1 := below_of hb (below_drw hB _)); clear hB hb hc hf hz; have hB := hB1; clear hB1; obtain ⟨hc, hf, hz⟩ := bcell hB) | ((first | have hB1 := below_of hb (below_alloc hB _) | have hB1 := below_of hb (below_alloc (below_alloc hB _) _) | have hB1 := below_of hb (below_alloc (below_alloc (below_alloc hB _) _) _) | have hB1 := below_of hb (below_alloc (below_alloc (below_alloc (below_alloc hB _) _) _) _) | have hB1 := below_of hb (below_alloc (below_alloc (below_alloc (below_alloc (below_alloc hB _) _) _) _) _) | have hB1 := below_of hb (Below.drew (below_alloc hB _)) | have hB1 := below_of hb (Below.drew (below_alloc (below_alloc hB _) _)) | have hB1 := below_of hb (Below.drew (below_alloc (below_alloc (below_alloc hB _) _) _)) | have hB1 := below_of hb (Below.drew (below_alloc (below_alloc (below_alloc (below_alloc hB _) _) _) _)) | have hB1 := below_of hb (Below.drew (below_alloc (below_alloc (below_alloc (below_alloc (below_alloc hB _) _) _) _) _)) | have hB1 := below_of hb (below_drw (below_alloc hB _) _) | have hB1 := below_of hb (below_drw (below_alloc (below_alloc hB _) _) _) | have hB1 := below_of hb (below_drw (below_alloc (below_alloc (below_alloc hB _) _) _) _) | have hB1 := below_of hb (below_drw (below_alloc (below_alloc (below_alloc (below_alloc hB _) _) _) _) _) | have hB1 := below_of hb (below_drw (below_alloc (below_alloc (below_alloc (below_alloc (below_alloc hB _) _) _) _) _) _)); clear hB hc hf hz; have hB := hB1; clear hB1; obtain ⟨hc, hf, hz⟩ := bcell hB; obtain ⟨hc_, hf_, hz_⟩ := bcell hb; clear hb) | (have hB := hb; clear hb; obtain ⟨hc, hf, hz⟩ := bcell hB))) | (go_at_call 32; refine (rsize_any _ _ _ _ _ _).mono ?_; rintro e w' ⟨rfl, hb⟩; rw [hsz.out]; (first | ((first | have hB1 := below_of hb hB | have hB1 := below_of hb (Below.drew hB) | have hB1 := below_of hb (below_drw hB _)); clear hB hb hc hf hz; have hB := hB1; clear hB1; obtain ⟨hc, hf, hz⟩ := bcell hB) | ((first | have hB1 := below_of hb (below_alloc hB _) | have hB1 := below_of hb (below_alloc (below_alloc hB _) _) | have hB1 := below_of hb (below_alloc (below_alloc (below_alloc hB _) _) _) | have hB1 := below_of hb (below_alloc (below_alloc (below_alloc (below_alloc hB _) _) _) _) | have hB1 := below_of hb (below_alloc (below_alloc (below_alloc (below_alloc (below_alloc hB _) _) _) _) _) | have hB1 := below_of hb (Below.drew (below_alloc hB _)) | have hB1 := below_of hb (Below.drew (below_alloc (below_alloc hB _) _)) | have hB1 := below_of hb (Below.drew (below_alloc (below_alloc (below_alloc hB _) _) _)) | have hB1 := below_of hb (Below.drew (below_alloc (below_alloc (below_alloc (below_alloc hB _) _) _) _)) | have hB1 := below_of hb (Below.drew (below_alloc (below_alloc (below_alloc (below_alloc (below_alloc hB _) _) _) _) _)) | have hB1 := below_of hb (below_drw (below_alloc hB _) _) | have hB1 := below_of hb (below_drw (below_alloc (below_alloc hB _) _) _) | have hB1 := below_of hb (below_drw (below_alloc (below_alloc (below_alloc hB _) _) _) _) | have hB1 := below_of hb (below_drw (below_alloc (below_alloc (below_alloc (below_alloc hB _) _) _) _) _) | have hB1 := below_of hb (below_drw (below_alloc (below_alloc (below_alloc (below_alloc (below_alloc hB _) _) _) _) _) _)); clear hB hc hf hz; have hB := hB1; clear hB1; obtain ⟨hc, hf, hz⟩ := bcell hB; obtain ⟨hc_, hf_, hz_⟩ := bcell hb; clear hb) | (have hB := hb; clear hb; obtain ⟨hc, hf, hz⟩ := bcell hB))))
        refine bodyPost_ret (results_tmp4 rfl _ _ _) rfl ?_
        exact ⟨rfl, (by repeat (first | (with_reducible exact Below.refl _ _) | (with_reducible refine Below.drew ?_) | (with_reducible refine below_drw ?_ _) | (with_reducible refine below_alloc ?_ _) | (with_reducible refine below_set ?_ (by simp <;> omega) _) | (refine below_of (by assumption) ?_)))⟩
    | true =>
      have e1 := Lib.hid (Geo.loc_in hi)
      obtain ⟨_, hp1, hp2⟩ := Geo.inBand_iff.1 hi
      have hbt := ho.bts
      have hts := ho.ts
      obtain ⟨r0, r1, b0, b1, t0, t1, s0, s1, _, _⟩ := ho
      simp only at r0 r1 b0 b1 t0 t1 s0 s1 hp1 hp2 hbt hts
      have q0 : 0 ≤ (a - r) / s := Int.ediv_nonneg (by omega) (by omega)
      have q1 : (a - r) / s ≤ 65536 := by
        have := Int.ediv_le_self s (show 0 ≤ a - r by omega)
        omega
      have q2 : 0 ≤ (a - r) / (t * s) := Int.ediv_nonneg (by omega) (by omega)
      have q3 : (a - r) / (t * s) ≤ 65536 := by
        have := Int.ediv_le_self (t * s) (show 0 ≤ a - r by omega)
        omega
      have e2 : (a - r) / (t * s) = (a - r) / s / t := by rw [Int.mul_comm, Int.ediv_ediv_of_nonneg (by omega)]
      have e3 := Lib.hid e2
      clear e2
      have D1 : IntKind.i64.wrap ((a - r).tdiv (t * s)) = (a - r) / s / t := by rw [Int.tdiv_eq_ediv_of_nonneg (by omega), IntWalk.i64_in _ (by omega)]; exact e3.out
      have D2 : (IntKind.i64.wrap ((a - r).tdiv s)).tmod t = (a - r) / s % t := by rw [Int.tdiv_eq_ediv_of_nonneg (by omega), IntWalk.i64_in _ (by omega), Int.tmod_eq_emod_of_nonneg q0]
      have D3 : (a - r).tmod s = (a - r) % s := Int.tmod_eq_emod_of_nonneg (by omega)
      have H1 := Lib.hid D1
      have H2 := Lib.hid D2
      have H3 := Lib.hid D3
      clear D1 D2 D3
      have ns : ¬ s = 0 := by omega
      have nt : ¬ t = 0 := by omega
      have nts : ¬ t * s = 0 := by omega
      go_enter Try.func38, Try.ntmps38
      go_wp2_with (first | (go_at_call 30; refine (rvalid_any _ _ _ _ _ _).mono ?_; rintro e w' ⟨rfl, hb⟩; (first | ((first | have hB1 := below_of hb hB | have hB1 := below_of hb (Below.drew hB) | have hB1 := below_of hb (below_drw hB _)); clear hB hb hc hf hz; have hB := hB1; clear hB1; obtain ⟨hc, hf, hz⟩ := bcell hB) | ((first | have hB1 := below_of hb (below_alloc hB _) | have hB1 := below_of hb (below_alloc (below_alloc hB _) _) | have hB1 := below_of hb (below_alloc (below_alloc (below_alloc hB _) _) _) | have hB1 := below_of hb (below_alloc (below_alloc (below_alloc (below_alloc hB _) _) _) _) | have hB1 := below_of hb (below_alloc (below_alloc (below_alloc (below_alloc (below_alloc hB _) _) _) _) _) | have hB1 := below_of hb (Below.drew (below_alloc hB _)) | have hB1 := below_of hb (Below.drew (below_alloc (below_alloc hB _) _)) | have hB1 := below_of hb (Below.drew (below_alloc (below_alloc (below_alloc hB _) _) _)) | have hB1 := below_of hb (Below.drew (below_alloc (below_alloc (below_alloc (below_alloc hB _) _) _) _)) | have hB1 := below_of hb (Below.drew (below_alloc (below_alloc (below_alloc (below_alloc (below_alloc hB _) _) _) _) _)) | have hB1 := below_of hb (below_drw (below_alloc hB _) _) | have hB1 := below_of hb (below_drw (below_alloc (below_alloc hB _) _) _) | have hB1 := below_of hb (below_drw (below_alloc (below_alloc (below_alloc hB _) _) _) _) | have hB1 := below_of hb (below_drw (below_alloc (below_alloc (below_alloc (below_alloc hB _) _) _) _) _) | have hB1 := below_of hb (below_drw (below_alloc (below_alloc (below_alloc (below_alloc (below_alloc hB _) _) _) _) _) _)); clear hB hc hf hz; have hB := hB1; clear hB1; obtain ⟨hc, hf, hz⟩ := bcell hB; obtain ⟨hc_, hf_, hz_⟩ := bcell hb; clear hb) | (have hB := hb; clear hb; obtain ⟨hc, hf, hz⟩ := bcell hB))) | (go_at_call 32; refine (rsize_any _ _ _ _ _ _).mono ?_; rintro e w' ⟨rfl, hb⟩; rw [hsz.out]; (first | ((first | have hB1 := below_of hb hB | have hB1 := below_of hb (Below.drew hB) | have hB1 := below_of hb (below_drw hB _)); clear hB hb hc hf hz; have hB := hB1; clear hB1; obtain ⟨hc, hf, hz⟩ := bcell hB) | ((first | have hB1 := below_of hb (below_alloc hB _) | have hB1 := below_of hb (below_alloc (below_alloc hB _) _) | have hB1 := below_of hb (below_alloc (below_alloc (below_alloc hB _) _) _) | have hB1 := below_of hb (below_alloc (below_alloc (below_alloc (below_alloc hB _) _) _) _) | have hB1 := below_of hb (below_alloc (below_alloc (below_alloc (below_alloc (below_alloc hB _) _) _) _) _) | have hB1 := below_of hb (Below.drew (below_alloc hB _)) | have hB1 := below_of hb (Below.drew (below_alloc (below_alloc hB _) _)) | have hB1 := below_of hb (Below.drew (below_alloc (below_alloc (below_alloc hB _) _) _)) | have hB1 := below_of hb (Below.drew (below_alloc (below_alloc (below_alloc (below_alloc hB _) _) _) _)) | have hB1 := below_of hb (Below.drew (below_alloc (below_alloc (below_alloc (below_alloc (below_alloc hB _) _) _) _) _)) | have hB1 := below_of hb (below_drw (below_alloc hB _) _) | have hB1 := below_of hb (below_drw (below_alloc (below_alloc hB _) _) _) | have hB1 := below_of hb (below_drw (below_alloc (below_alloc (below_alloc hB _) _) _) _) | have hB1 := below_of hb (below_drw (below_alloc (below_alloc (below_alloc (below_alloc hB _) _) _) _) _) | have hB1 := below_of hb (below_drw (below_alloc (below_alloc (below_alloc (below_alloc (below_alloc hB _) _) _) _) _) _)); clear hB hc hf hz; have hB := hB1; clear hB1; obtain ⟨hc, hf, hz⟩ := bcell hB; obtain ⟨hc_, hf_, hz_⟩ := bcell hb; clear hb) | (have hB := hb; clear hb; obtain ⟨hc, hf, hz⟩ := bcell hB))))
      go_region_held3 (fun W_ => (∀ b_ o_, b_ < (w').heap.size → W_.cell? ⟨b_, o_, none⟩ = (w').cell? ⟨b_, o_, none⟩) ∧ (∀ b_ o_, b_ < (w').heap.size → W_.frozen? ⟨b_, o_, none⟩ = (w').frozen? ⟨b_, o_, none⟩) ∧ (∀ k_, k_ < (w').heap.size → k_ < W_.heap.size) ∧ Below (w').heap.size (w') W_) (first | exact held_start _ | assumption | exact held_keep (by assumption) (by assumption) | exact held_keep (by assumption) ((Below.refl _ _).alloc (Nat.le_refl _) _) | exact held_of (by assumption)) (first | ((go_at_call 34; refine (rbandSize_any _ _ _ _ _ _).mono ?_; rintro e w' ⟨rfl, hb1⟩); rw [hbs.out]))
      all_goals go_wp2
      all_goals refine bodyPost_ret (results_tmp4 rfl _ _ _) rfl ?_
      all_goals refine ⟨?_, (by repeat (first | (with_reducible exact Below.refl _ _) | (with_reducible refine Below.drew ?_) | (with_reducible refine below_drw ?_ _) | (with_reducible refine below_alloc ?_ _) | (with_reducible refine below_set ?_ (by simp <;> omega) _) | (refine below_of (by assumption) ?_)))⟩
      all_goals (rw [e1.out]; simp only [Geo.place, H1.out, H2.out, H3.out]; rfl)
end Go.Proofs.Ytmloiifnadaaoaa
