/- The walks of package media: New, Geometry, Clone. -/
import Derived.Test.YtmloiifnadaaoaaMedW1
namespace Go.Proofs.Ytmloiifnadaaoaa
open Go.RowKit
set_option linter.unusedVariables false
set_option linter.unusedSimpArgs false

theorem run_make_rows {P : Program} (t e : TypeId) (i : TypeInfo) (z : Value) (ht : P.underlying t = some (.slice e)) (hi : P.info? e = some i) (hz : i.zero = some z)
    (n : Nat) (hbytes : i.bytes * n ≤ 281474976710656) (h63 : n ≤ 9223372036854775807) (w : World) :
    (Instr.makeSlice t (.int .i64 (n : Int)) (.int .i64 (n : Int))).run P w = .ok (.slice (some ⟨w.heap.size, 0, none⟩) n n) (w.alloc (.cells (madeCells z.cells (n * i.size)) e)) := by
  have hb : (i.bytes : Int) * (n : Int) ≤ 281474976710656 := by
    have h : ((i.bytes * n : Nat) : Int) ≤ 281474976710656 := by omega
    rwa [Int.natCast_mul] at h
  have hr := run_make (P := P) w t e i z ht hi hz .i64 .i64 n n (by omega) (by omega) hb (by omega)
  simp only [Int.toNat_natCast] at hr
  exact hr

theorem made_get (z : Array Value) (n i : Nat) (h : i < n) : (madeCells z n).toList[i]? = some (z[i % z.size]!) := by
  simp [madeCells, h]

theorem new_ok {r b t s o : Int} (W : World) (ho : (Geo.mk r b t s o).Ok) (n : Nat) (hn : (Geo.mk r b t s o).size = (n : Int)) :
    IsMed ((W.alloc (.cells (madeCells #[.int .i64 0, .slice none 0 0] (n * 2)) 139)).alloc (.cells #[.int .i64 r, .int .i64 b, .int .i64 t, .int .i64 s, .int .i64 o, .slice (some ⟨W.heap.size, 0, none⟩) n n] 136))
      (W.heap.size + 1) W.heap.size n (Med.new (Geo.mk r b t s o)) := by
  have hN : (Med.new (Geo.mk r b t s o)).l.length = n := by simp [Med.new, hn]
  have hle := (Geo.size_bd (Geo.mk r b t s o)).2
  rw [hn] at hle
  refine ⟨?_, ⟨(madeCells #[.int .i64 0, .slice none 0 0] (n * 2)).toList, ?_, ?_⟩, Med.good_new ho⟩
  · rw [hN]
    have := heap_alloc_new (W.alloc (.cells (madeCells #[.int .i64 0, .slice none 0 0] (n * 2)) 139)) (.cells #[.int .i64 r, .int .i64 b, .int .i64 t, .int .i64 s, .int .i64 o, .slice (some ⟨W.heap.size, 0, none⟩) n n] 136)
    simpa [Med.new] using this
  · rw [hN]
    exact (World.ownsRow_lit W _ n (Nat.zero_le _) (by unfold maxLen; omega) (by simp [size_madeCells])).alloc _
  · intro i x hx
    have hx' : x = Sec.blank ∧ i < n := by
      simp only [Med.new, hn, Int.toNat_natCast] at hx
      have h1 := List.mem_of_getElem? hx
      have h2 := (List.getElem?_eq_some_iff.1 hx).1
      exact ⟨(List.mem_replicate.1 h1).2, by simpa using h2⟩
    obtain ⟨rfl, hi⟩ := hx'
    refine ⟨none, 0, ?_, ?_, .inl rfl⟩
    · rw [made_get _ _ _ (by omega)]
      simp [Sec.blank]
    · rw [made_get _ _ _ (by omega)]
      simp [Sec.blank, Nat.add_mod]

/-- What New returns. -/
def NewIs (r b t s o : Int) (w : World) (e : Ending) (w' : World) : Prop :=
  Below w.heap.size w w' ∧ (((Geo.mk r b t s o).ok = false ∧ e = .returned (.tuple #[.pointer none, .int .i64 1])) ∨
      ((Geo.mk r b t s o).ok = true ∧ ∃ p q n, e = .returned (.tuple #[.pointer (some ⟨p, 0, none⟩), .int .i64 0]) ∧ w.heap.size ≤ p ∧ w.heap.size ≤ q ∧ IsMed w' p q n (Med.new (Geo.mk r b t s o))))

set_option maxHeartbeats 2000000 in
theorem new_any (r b t s o : Int) (w : World) : Calls Try.prog 46 #[.agg #[.int .i64 r, .int .i64 b, .int .i64 t, .int .i64 s, .int .i64 o]] w (NewIs r b t s o w) := by
  cases hv : (Geo.mk r b t s o).ok with
  | false =>
    go_enter Try.func46, Try.ntmps46
    go_wp2_with (go_at_call 29; refine (valid_any _ _ _ _ _ _).mono ?_; rintro e w' ⟨rfl, hb⟩; (first | ((first | have hB1 := below_of hb hB | have hB1 := below_of hb (Below.drew hB) | have hB1 := below_of hb (below_drw hB _)); clear hB hb hc hf hz; have hB := hB1; clear hB1; obtain ⟨hc, hf, hz⟩ := bcell hB) | ((first | have hB1 := below_of hb (below_alloc hB _) | have hB1 := below_of hb (below_alloc (below_alloc hB _) _) | have hB1 := below_of hb (below_alloc (below_alloc (below_alloc hB _) _) _) | have hB1 := below_of hb (below_alloc (below_alloc (below_alloc (below_alloc hB _) _) _) _) | have hB1 := below_of hb (below_alloc (below_alloc (below_alloc (below_alloc (below_alloc hB _) _) _) _) _) | have hB1 := below_of hb (Below.drew (below_alloc hB _)) | have hB1 := below_of hb (Below.drew (below_alloc (below_alloc hB _) _)) | have hB1 := below_of hb (Below.drew (below_alloc (below_alloc (below_alloc hB _) _) _)) | have hB1 := below_of hb (Below.drew (below_alloc (below_alloc (below_alloc (below_alloc hB _) _) _) _)) | have hB1 := below_of hb (Below.drew (below_alloc (below_alloc (below_alloc (below_alloc (below_alloc hB _) _) _) _) _)) | have hB1 := below_of hb (below_drw (below_alloc hB _) _) | have hB1 := below_of hb (below_drw (below_alloc (below_alloc hB _) _) _) | have hB1 := below_of hb (below_drw (below_alloc (below_alloc (below_alloc hB _) _) _) _) | have hB1 := below_of hb (below_drw (below_alloc (below_alloc (below_alloc (below_alloc hB _) _) _) _) _) | have hB1 := below_of hb (below_drw (below_alloc (below_alloc (below_alloc (below_alloc (below_alloc hB _) _) _) _) _) _)); clear hB hc hf hz; have hB := hB1; clear hB1; obtain ⟨hc, hf, hz⟩ := bcell hB; obtain ⟨hc_, hf_, hz_⟩ := bcell hb; clear hb) | (have hB := hb; clear hb; obtain ⟨hc, hf, hz⟩ := bcell hB)))
    go_ret2
    exact ⟨(by repeat (first | (with_reducible exact Below.refl _ _) | (with_reducible refine Below.drew ?_) | (with_reducible refine below_drw ?_ _) | (with_reducible refine below_alloc ?_ _) | (with_reducible refine below_set ?_ (by simp <;> omega) _) | (refine below_of (by assumption) ?_))), .inl ⟨hv, rfl⟩⟩
  | true =>
    have ho := Geo.ok_iff.1 hv
    obtain ⟨n, hn⟩ := Int.eq_ofNat_of_zero_le (Geo.size_bd (Geo.mk r b t s o)).1
    have hle := (Geo.size_bd (Geo.mk r b t s o)).2
    rw [hn] at hle
    have Hn := Lib.hid hn
    have Ho := Lib.hid ho
    clear hn ho
    obtain ⟨i0, hinf, hz0, hz1, hz2⟩ := info_parts Try.info_sectors
    have hmk := fun W => run_make_rows (P := Try.prog) 134 139 i0 _ Try.underlying134 hinf hz0 n (by rw [hz2]; omega) (by omega) W
    rw [hz1] at hmk
    simp only [Value.cells] at hmk
    go_enter Try.func46, Try.ntmps46
    go_wp2_with (go_at_call 29; refine (valid_any _ _ _ _ _ _).mono ?_; rintro e w' ⟨rfl, hb⟩; (first | ((first | have hB1 := below_of hb hB | have hB1 := below_of hb (Below.drew hB) | have hB1 := below_of hb (below_drw hB _)); clear hB hb hc hf hz; have hB := hB1; clear hB1; obtain ⟨hc, hf, hz⟩ := bcell hB) | ((first | have hB1 := below_of hb (below_alloc hB _) | have hB1 := below_of hb (below_alloc (below_alloc hB _) _) | have hB1 := below_of hb (below_alloc (below_alloc (below_alloc hB _) _) _) | have hB1 := below_of hb (below_alloc (below_alloc (below_alloc (below_alloc hB _) _) _) _) | have hB1 := below_of hb (below_alloc (below_alloc (below_alloc (below_alloc (below_alloc hB _) _) _) _) _) | have hB1 := below_of hb (Below.drew (below_alloc hB _)) | have hB1 := below_of hb (Below.drew (below_alloc (below_alloc hB _) _)) | have hB1 := below_of hb (Below.drew (below_alloc (below_alloc (below_alloc hB _) _) _)) | have hB1 := below_of hb (Below.drew (below_alloc (below_alloc (below_alloc (below_alloc hB _) _) _) _)) | have hB1 := below_of hb (Below.drew (below_alloc (below_alloc (below_alloc (below_alloc (below_alloc hB _) _) _) _) _)) | have hB1 := below_of hb (below_drw (below_alloc hB _) _) | have hB1 := below_of hb (below_drw (below_alloc (below_alloc hB _) _) _) | have hB1 := below_of hb (below_drw (below_alloc (below_alloc (below_alloc hB _) _) _) _) | have hB1 := below_of hb (below_drw (below_alloc (below_alloc (below_alloc (below_alloc hB _) _) _) _) _) | have hB1 := below_of hb (below_drw (below_alloc (below_alloc (below_alloc (below_alloc (below_alloc hB _) _) _) _) _) _)); clear hB hc hf hz; have hB := hB1; clear hB1; obtain ⟨hc, hf, hz⟩ := bcell hB; obtain ⟨hc_, hf_, hz_⟩ := bcell hb; clear hb) | (have hB := hb; clear hb; obtain ⟨hc, hf, hz⟩ := bcell hB)))
    go_region_held3 (fun W_ => (∀ b_ o_, b_ < (w').heap.size → W_.cell? ⟨b_, o_, none⟩ = (w').cell? ⟨b_, o_, none⟩) ∧ (∀ b_ o_, b_ < (w').heap.size → W_.frozen? ⟨b_, o_, none⟩ = (w').frozen? ⟨b_, o_, none⟩) ∧ (∀ k_, k_ < (w').heap.size → k_ < W_.heap.size) ∧ Below (w').heap.size (w') W_) (first | exact held_start _ | assumption | exact held_keep (by assumption) (by assumption) | exact held_keep (by assumption) ((Below.refl _ _).alloc (Nat.le_refl _) _) | exact held_of (by assumption)) (first | (go_at_call 31; refine (size_any _ _ _ _ _ _).mono ?_; rintro e w' ⟨rfl, hb⟩; rw [Hn.out]))
    all_goals go_wp2
    all_goals go_ret2
    all_goals (have hsz := hB.size; have hsz2 := hb.size; simp at hsz hsz2)
    all_goals exact ⟨(by repeat (first | (with_reducible exact Below.refl _ _) | (with_reducible refine Below.drew ?_) | (with_reducible refine below_drw ?_ _) | (with_reducible refine below_alloc ?_ _) | (with_reducible refine below_set ?_ (by simp <;> omega) _) | (refine below_of (by assumption) ?_))), .inr ⟨hv, _, _, n, rfl, by omega, by omega, new_ok _ Ho.out n Hn.out⟩⟩

set_option maxHeartbeats 1000000 in
theorem geometry_any (p q cap : Nat) (m : Med) (w : World) (h : IsMed w p q cap m) :
    Calls Try.prog 58 #[.pointer (some ⟨p, 0, none⟩)] w fun e w' => e = .returned (.agg #[.int .i64 m.g.r, .int .i64 m.g.b, .int .i64 m.g.t, .int .i64 m.g.s, .int .i64 m.g.o]) ∧ Below w.heap.size w w' := by
  have c0 := h.c0
  have c1 := h.c1
  have c2 := h.c2
  have c3 := h.c3
  have c4 := h.c4
  have hp := h.hasP.lt
  have hne : p ≠ w.heap.size := by omega
  go_enter Try.func58, Try.ntmps58
  go_wp2
  refine bodyPost_ret (v := .agg #[.int .i64 m.g.r, .int .i64 m.g.b, .int .i64 m.g.t, .int .i64 m.g.s, .int .i64 m.g.o]) (by simp [results, Try.results58, go_sem]) rfl ⟨rfl, (by repeat (first | (with_reducible exact Below.refl _ _) | (with_reducible refine Below.drew ?_) | (with_reducible refine below_drw ?_ _) | (with_reducible refine below_alloc ?_ _) | (with_reducible refine below_set ?_ (by simp <;> omega) _) | (refine below_of (by assumption) ?_)))⟩
set_option maxHeartbeats 1000000 in
theorem geometry_nil (w : World) :
    Calls Try.prog 58 #[.pointer none] w fun e w' => e = .returned (.agg #[.int .i64 0, .int .i64 0, .int .i64 0, .int .i64 0, .int .i64 0]) ∧ Below w.heap.size w w' := by
  go_enter Try.func58, Try.ntmps58
  go_wp2
  refine bodyPost_ret (v := .agg #[.int .i64 0, .int .i64 0, .int .i64 0, .int .i64 0, .int .i64 0]) (by simp [results, Try.results58, go_sem]) rfl ⟨rfl, (by repeat (first | (with_reducible exact Below.refl _ _) | (with_reducible refine Below.drew ?_) | (with_reducible refine below_drw ?_ _) | (with_reducible refine below_alloc ?_ _) | (with_reducible refine below_set ?_ (by simp <;> omega) _) | (refine below_of (by assumption) ?_)))⟩

theorem Secs.one {w : World} {xs : List Value} {l : List Sec} (h : Secs w xs l) (hx : xs.length = l.length * 2) : ∀ u ∈ xs, u.oneCell' = true := by
  intro u hu
  obtain ⟨j, hj, rfl⟩ := List.getElem_of_mem hu
  have hi : j / 2 < l.length := by omega
  obtain ⟨A, c, h1, h2, _⟩ := h (j / 2) _ (List.getElem?_eq_getElem hi)
  rcases Nat.mod_two_eq_zero_or_one j with h0 | h0
  · have e : j / 2 * 2 = j := by omega
    rw [e, List.getElem?_eq_getElem hj] at h1
    rw [Option.some.inj h1]; rfl
  · have e : j / 2 * 2 + 1 = j := by omega
    rw [e, List.getElem?_eq_getElem hj] at h2
    rw [Option.some.inj h2]; rfl
theorem cloneSecs_any (q cap : Nat) (xs : List Value) (l : List Sec) (w : World) (ho : w.ownsRow 0 139 2 (.slice (some ⟨q, 0, none⟩) l.length cap) l.length xs) (hs : Secs w xs l) (hn : l.length ≤ 81920) :
    Calls Try.prog 115 #[.slice (some ⟨q, 0, none⟩) l.length cap] w fun e w' => ∃ g c, e = .returned (.slice (some ⟨g, 0, none⟩) l.length c) ∧ w.heap.size ≤ g ∧
      w'.ownsRow 0 139 2 (.slice (some ⟨g, 0, none⟩) l.length c) l.length xs ∧ Secs w' xs l ∧ Below w.heap.size w w' := by
  refine (clone_sectors (some ⟨q, 0, none⟩) l.length cap xs w ho.1 (fun a ha j u hu => by obtain rfl := Option.some.inj ha; exact ho.cells (g := q) rfl j u hu) (hs.one ho.1) (by omega) (fun h => by cases h)).mono ?_
  rintro e w' ⟨v, rfl, hv, hb, hnil⟩
  have hv' := hv.2
  rcases hv' with ⟨h1, _⟩ | ⟨g, c, cur, rfl, hg, _⟩
  · exact absurd (hnil.1 h1) (by simp)
  · exact ⟨g, c, rfl, hg, owns_mono (Nat.zero_le _) hv, hs.keep (Fr.ofBelow hb (fun _ => False)) (fun _ h => h.elim), hb⟩

/-- What Clone returns. -/
def CloneIs (m : Med) (w : World) (e : Ending) (w' : World) : Prop :=
  Below w.heap.size w w' ∧ ∃ p q n, e = .returned (.pointer (some ⟨p, 0, none⟩)) ∧ w.heap.size ≤ p ∧ w.heap.size ≤ q ∧ IsMed w' p q n m

set_option maxHeartbeats 2000000 in
theorem mclone_any (p q cap : Nat) (m : Med) (w : World) (h : IsMed w p q cap m) :
    Calls Try.prog 56 #[.pointer (some ⟨p, 0, none⟩)] w (CloneIs m w) := by
  have c0 := h.c0
  have c1 := h.c1
  have c2 := h.c2
  have c3 := h.c3
  have c4 := h.c4
  have c5 := h.c5
  have hp := h.hasP.lt
  obtain ⟨xs, ho, hs⟩ := h.row
  have Ho := Lib.hid ho
  have Hs := Lib.hid hs
  have hle := h.good.len_le
  clear ho hs
  go_enter Try.func56, Try.ntmps56
  go_wp2_with fail
  go_region_held3 (fun W_ => (∀ b_ o_, b_ < (w).heap.size → W_.cell? ⟨b_, o_, none⟩ = (w).cell? ⟨b_, o_, none⟩) ∧ (∀ b_ o_, b_ < (w).heap.size → W_.frozen? ⟨b_, o_, none⟩ = (w).frozen? ⟨b_, o_, none⟩) ∧ (∀ k_, k_ < (w).heap.size → k_ < W_.heap.size) ∧ Below (w).heap.size (w) W_) (first | exact held_start _ | assumption | exact held_keep (by assumption) (by assumption) | exact held_keep (by assumption) ((Below.refl _ _).alloc (Nat.le_refl _) _) | exact held_of (by assumption)) (first | (go_at_call 115; refine (cloneSecs_any q cap xs m.l _ ?_ ?_ hle).mono ?_; (exact Ho.out); (exact Hs.out); rintro e w' ⟨g, c', rfl, hg, hrow, hsec, hb⟩; have Hrow := Lib.hid hrow; have Hsec := Lib.hid hsec; clear hrow hsec))
  all_goals go_wp2
  all_goals go_ret
  all_goals (have hsz := hb.size; simp at hsz hg)
  all_goals exact ⟨(by repeat (first | (with_reducible exact Below.refl _ _) | (with_reducible refine Below.drew ?_) | (with_reducible refine below_drw ?_ _) | (with_reducible refine below_alloc ?_ _) | (with_reducible refine below_set ?_ (by simp <;> omega) _) | (refine below_of (by assumption) ?_))), _, g, c', rfl, by omega, by omega, ⟨heap_alloc_new _ _, ⟨xs, Hrow.out.alloc _, Hsec.out.keep ((Fr.refl (fun _ => False) _).alloc _) (fun _ h => h.elim)⟩, h.good⟩⟩
theorem mclone_nil (w : World) : Calls Try.prog 56 #[.pointer none] w fun e w' => e = .returned (.pointer none) ∧ w = w' := by
  go_enter Try.func56, Try.ntmps56
  go_wp2
  go_ret
  exact ⟨rfl, rfl⟩
end Go.Proofs.Ytmloiifnadaaoaa
