/- The walks of the reference of package media: has, State, Read, New, Clone. -/
import Derived.Test.YtmloiifnadaaoaaRefH
namespace Go.Proofs.Ytmloiifnadaaoaa
open Go.RowKit
set_option linter.unusedVariables false
set_option linter.unusedSimpArgs false

set_option maxHeartbeats 1000000 in
theorem rhas_any (p q cap : Nat) (m : Med) (a : Int) (w : World) (h : IsRef w p q cap m) :
    Calls Try.prog 142 #[.pointer (some ⟨p, 0, none⟩), .int .i64 a] w fun e w' => e = .returned (.bool (m.has a)) ∧ w = w' := by
  have c5 := h.c5
  cases hh : m.has a with
  | false =>
    have h0 := Med.has_no.1 hh
    go_enter Try.func142, Try.ntmps142
    go_wp2
    all_goals go_ret
    all_goals exact ⟨ret_bool (by simp; try omega), rfl⟩
  | true =>
    obtain ⟨h0, h1⟩ := Med.has_iff.1 hh
    go_enter Try.func142, Try.ntmps142
    go_wp2
    go_ret
    exact ⟨ret_bool rfl, rfl⟩

set_option maxHeartbeats 1000000 in
theorem rstate_any (p q cap : Nat) (m : Med) (a : Int) (w : World) (h : IsRef w p q cap m) :
    Calls Try.prog 114 #[.pointer (some ⟨p, 0, none⟩), .int .i64 a] w fun e w' => e = .returned (.int .i64 (m.state a)) ∧ w = w' := by
  have c5 := h.c5
  cases hh : m.has a with
  | false =>
    rw [Med.state_no hh]
    go_enter Try.func114, Try.ntmps114
    go_wp2_with ((go_at_call 142; refine (rhas_any p q cap m a _ h).mono ?_; rintro e w' ⟨rfl, rfl⟩))
    go_ret
    exact ⟨rfl, rfl⟩
  | true =>
    rw [Med.state_yes hh]
    obtain ⟨h0, h1⟩ := Med.has_iff.1 hh
    obtain ⟨k, rfl⟩ := Int.eq_ofNat_of_zero_le h0
    have hk : k < m.l.length := by omega
    obtain ⟨s0, s1, _⟩ := h.sec hk
    go_enter Try.func114, Try.ntmps114
    go_wp2_with ((go_at_call 142; refine (rhas_any p q cap m _ _ h).mono ?_; rintro e w' ⟨rfl, rfl⟩))
    go_ret
    exact ⟨rfl, rfl⟩

set_option maxHeartbeats 1000000 in
theorem rread_any (p q cap : Nat) (m : Med) (a : Int) (w : World) (h : IsRef w p q cap m) :
    Calls Try.prog 113 #[.pointer (some ⟨p, 0, none⟩), .int .i64 a] w (ReadIs m a w) := by
  have c5 := h.c5
  cases hh : m.has a with
  | false =>
    obtain ⟨e1, e2⟩ := Med.read_no hh
    have H1 := Lib.hid e1
    have H2 := Lib.hid e2
    clear e1 e2
    go_enter Try.func113, Try.ntmps113
    go_wp2_with ((go_at_call 142; refine (rhas_any p q cap m a _ h).mono ?_; rintro e w' ⟨rfl, rfl⟩))
    go_ret2
    exact ⟨none, 0, by rw [H1.out, H2.out]; rfl, .inl H2.out, (by repeat (first | (with_reducible exact Below.refl _ _) | (with_reducible refine Below.drew ?_) | (with_reducible refine below_drw ?_ _) | (with_reducible refine below_alloc ?_ _) | (with_reducible refine below_set ?_ (by simp <;> omega) _) | (refine below_of (by assumption) ?_)))⟩
  | true =>
    obtain ⟨h0, h1⟩ := Med.has_iff.1 hh
    obtain ⟨k, rfl⟩ := Int.eq_ofNat_of_zero_le h0
    have hk : k < m.l.length := by omega
    obtain ⟨s0, s1, h64⟩ := h.sec hk
    by_cases hst : (m.sec k).st = 1
    · obtain ⟨e1, e2⟩ := Med.read_ok hh hst
      have H1 := Lib.hid e1
      have H2 := Lib.hid e2
      have hst1 : ((m.sec k).st != 1) = false := by simp [hst]
      have hconv := ofStr_run (str (m.sec k).bs)
      clear e1 e2 hst
      go_enter Try.func113, Try.ntmps113
      go_wp2_with ((go_at_call 142; refine (rhas_any p q cap m _ _ h).mono ?_; rintro e w' ⟨rfl, rfl⟩))
      go_ret2
      refine ⟨some ⟨w.heap.size, 0, none⟩, grownCap w (str (m.sec k).bs).size 0 5, by rw [H1.out, H2.out, ← str_size]; rfl, by rw [H2.out]; exact bytesT_new _ _ _ _, (by repeat (first | (with_reducible exact Below.refl _ _) | (with_reducible refine Below.drew ?_) | (with_reducible refine below_drw ?_ _) | (with_reducible refine below_alloc ?_ _) | (with_reducible refine below_set ?_ (by simp <;> omega) _) | (refine below_of (by assumption) ?_)))⟩
    · obtain ⟨e1, e2⟩ := Med.read_bad hh hst
      have H1 := Lib.hid e1
      have H2 := Lib.hid e2
      have hst1 : ((m.sec k).st != 1) = true := by simp [hst]
      clear e1 e2 hst
      go_enter Try.func113, Try.ntmps113
      go_wp2_with ((go_at_call 142; refine (rhas_any p q cap m _ _ h).mono ?_; rintro e w' ⟨rfl, rfl⟩))
      go_ret2
      exact ⟨none, 0, by rw [H1.out, H2.out]; rfl, .inl H2.out, (by repeat (first | (with_reducible exact Below.refl _ _) | (with_reducible refine Below.drew ?_) | (with_reducible refine below_drw ?_ _) | (with_reducible refine below_alloc ?_ _) | (with_reducible refine below_set ?_ (by simp <;> omega) _) | (refine below_of (by assumption) ?_)))⟩

theorem Try.info_rsectors : (Try.prog.info? 167).map (fun i => (i.zero, i.size, i.bytes)) = some (some (.agg #[.int .i64 0, .string ByteArray.empty]), 2, 24) := by kernel_rfl

theorem rnew_ok {r b t s o : Int} (W : World) (ho : (Geo.mk r b t s o).Ok) (n : Nat) (hn : (Geo.mk r b t s o).size = (n : Int)) :
    IsRef ((W.alloc (.cells (madeCells #[.int .i64 0, .string ByteArray.empty] (n * 2)) 167)).alloc (.cells #[.int .i64 r, .int .i64 b, .int .i64 t, .int .i64 s, .int .i64 o, .slice (some ⟨W.heap.size, 0, none⟩) n n] 142))
      (W.heap.size + 1) W.heap.size n (Med.new (Geo.mk r b t s o)) := by
  have hN : (Med.new (Geo.mk r b t s o)).l.length = n := by simp [Med.new, hn]
  have hle := (Geo.size_bd (Geo.mk r b t s o)).2
  rw [hn] at hle
  refine ⟨?_, ⟨(madeCells #[.int .i64 0, .string ByteArray.empty] (n * 2)).toList, ?_, ?_⟩, Med.good_new ho⟩
  · rw [hN]
    have := heap_alloc_new (W.alloc (.cells (madeCells #[.int .i64 0, .string ByteArray.empty] (n * 2)) 167)) (.cells #[.int .i64 r, .int .i64 b, .int .i64 t, .int .i64 s, .int .i64 o, .slice (some ⟨W.heap.size, 0, none⟩) n n] 142)
    simpa [Med.new] using this
  · rw [hN]
    exact (World.ownsRow_lit W _ n (Nat.zero_le _) (by unfold maxLen; omega) (by simp [size_madeCells])).alloc _
  · intro i x hx
    have hx' : x = Sec.blank ∧ i < n := by
      simp only [Med.new, hn, Int.toNat_natCast] at hx
      have h1 := List.mem_of_getElem? hx
      have h2 := (List.getElem?_eq_some_iff.1 hx).1
      exact ⟨(List.mem_replicate.1 h1).2, by simpa using h2⟩
    obtain ⟨rfl, hi⟩ := hx'
    refine ⟨?_, ?_⟩
    · rw [made_get _ _ _ (by omega)]
      simp [Sec.blank]
    · rw [made_get _ _ _ (by omega)]
      simp [Sec.blank, Nat.add_mod, str, ByteArray.empty, ByteArray.emptyWithCapacity]
      rfl

/-- What the reference's New returns. -/
def RNewIs (r b t s o : Int) (w : World) (e : Ending) (w' : World) : Prop :=
  Below w.heap.size w w' ∧ (((Geo.mk r b t s o).ok = false ∧ e = .returned (.tuple #[.pointer none, .int .i64 1])) ∨
      ((Geo.mk r b t s o).ok = true ∧ ∃ p q n, e = .returned (.tuple #[.pointer (some ⟨p, 0, none⟩), .int .i64 0]) ∧ w.heap.size ≤ p ∧ w.heap.size ≤ q ∧ IsRef w' p q n (Med.new (Geo.mk r b t s o))))

set_option maxHeartbeats 2000000 in
theorem rnew_any (r b t s o : Int) (w : World) : Calls Try.prog 53 #[.agg #[.int .i64 r, .int .i64 b, .int .i64 t, .int .i64 s, .int .i64 o]] w (RNewIs r b t s o w) := by
  cases hv : (Geo.mk r b t s o).ok with
  | false =>
    go_enter Try.func53, Try.ntmps53
    go_wp2_with (go_at_call 30; refine (rvalid_any _ _ _ _ _ _).mono ?_; rintro e w' ⟨rfl, hb⟩; (first | ((first | have hB1 := below_of hb hB | have hB1 := below_of hb (Below.drew hB) | have hB1 := below_of hb (below_drw hB _)); clear hB hb hc hf hz; have hB := hB1; clear hB1; obtain ⟨hc, hf, hz⟩ := bcell hB) | ((first | have hB1 := below_of hb (below_alloc hB _) | have hB1 := below_of hb (below_alloc (below_alloc hB _) _) | have hB1 := below_of hb (below_alloc (below_alloc (below_alloc hB _) _) _) | have hB1 := below_of hb (below_alloc (below_alloc (below_alloc (below_alloc hB _) _) _) _) | have hB1 := below_of hb (below_alloc (below_alloc (below_alloc (below_alloc (below_alloc hB _) _) _) _) _) | have hB1 := below_of hb (Below.drew (below_alloc hB _)) | have hB1 := below_of hb (Below.drew (below_alloc (below_alloc hB _) _)) | have hB1 := below_of hb (Below.drew (below_alloc (below_alloc (below_alloc hB _) _) _)) | have hB1 := below_of hb (Below.drew (below_alloc (below_alloc (below_alloc (below_alloc hB _) _) _) _)) | have hB1 := below_of hb (Below.drew (below_alloc (below_alloc (below_alloc (below_alloc (below_alloc hB _) _) _) _) _)) | have hB1 := below_of hb (below_drw (below_alloc hB _) _) | have hB1 := below_of hb (below_drw (below_alloc (below_alloc hB _) _) _) | have hB1 := below_of hb (below_drw (below_alloc (below_alloc (below_alloc hB _) _) _) _) | have hB1 := below_of hb (below_drw (below_alloc (below_alloc (below_alloc (below_alloc hB _) _) _) _) _) | have hB1 := below_of hb (below_drw (below_alloc (below_alloc (below_alloc (below_alloc (below_alloc hB _) _) _) _) _) _)); clear hB hc hf hz; have hB := hB1; clear hB1; obtain ⟨hc, hf, hz⟩ := bcell hB; obtain ⟨hc_, hf_, hz_⟩ := bcell hb; clear hb) | (have hB := hb; clear hb; obtain ⟨hc, hf, hz⟩ := bcell hB)))
    go_ret2
    exact ⟨(by repeat (first | (with_reducible exact Below.refl _ _) | (with_reducible refine Below.drew ?_) | (with_reducible refine below_drw ?_ _) | (with_reducible refine below_alloc ?_ _) | (with_reducible refine below_set ?_ (by simp <;> omega) _) | (refine below_of (by assumption) ?_))), .inl ⟨hv, rfl⟩⟩
  | true =>
    have ho := Geo.ok_iff.1 hv
    obtain ⟨n, hn⟩ := Int.eq_ofNat_of_zero_le (Geo.size_bd (Geo.mk r b t s o)).1
    have hle := (Geo.size_bd (Geo.mk r b t s o)).2
    rw [hn] at hle
    have Hn := Lib.hid hn
    have Ho := Lib.hid ho
    clear hn ho
    obtain ⟨i0, hinf, hz0, hz1, hz2⟩ := info_parts Try.info_rsectors
    have hmk := fun W => run_make_rows (P := Try.prog) 140 167 i0 _ Try.underlying140 hinf hz0 n (by rw [hz2]; omega) (by omega) W
    rw [hz1] at hmk
    simp only [Value.cells] at hmk
    go_enter Try.func53, Try.ntmps53
    go_wp2_with (go_at_call 30; refine (rvalid_any _ _ _ _ _ _).mono ?_; rintro e w' ⟨rfl, hb⟩; (first | ((first | have hB1 := below_of hb hB | have hB1 := below_of hb (Below.drew hB) | have hB1 := below_of hb (below_drw hB _)); clear hB hb hc hf hz; have hB := hB1; clear hB1; obtain ⟨hc, hf, hz⟩ := bcell hB) | ((first | have hB1 := below_of hb (below_alloc hB _) | have hB1 := below_of hb (below_alloc (below_alloc hB _) _) | have hB1 := below_of hb (below_alloc (below_alloc (below_alloc hB _) _) _) | have hB1 := below_of hb (below_alloc (below_alloc (below_alloc (below_alloc hB _) _) _) _) | have hB1 := below_of hb (below_alloc (below_alloc (below_alloc (below_alloc (below_alloc hB _) _) _) _) _) | have hB1 := below_of hb (Below.drew (below_alloc hB _)) | have hB1 := below_of hb (Below.drew (below_alloc (below_alloc hB _) _)) | have hB1 := below_of hb (Below.drew (below_alloc (below_alloc (below_alloc hB _) _) _)) | have hB1 := below_of hb (Below.drew (below_alloc (below_alloc (below_alloc (below_alloc hB _) _) _) _)) | have hB1 := below_of hb (Below.drew (below_alloc (below_alloc (below_alloc (below_alloc (below_alloc hB _) _) _) _) _)) | have hB1 := below_of hb (below_drw (below_alloc hB _) _) | have hB1 := below_of hb (below_drw (below_alloc (below_alloc hB _) _) _) | have hB1 := below_of hb (below_drw (below_alloc (below_alloc (below_alloc hB _) _) _) _) | have hB1 := below_of hb (below_drw (below_alloc (below_alloc (below_alloc (below_alloc hB _) _) _) _) _) | have hB1 := below_of hb (below_drw (below_alloc (below_alloc (below_alloc (below_alloc (below_alloc hB _) _) _) _) _) _)); clear hB hc hf hz; have hB := hB1; clear hB1; obtain ⟨hc, hf, hz⟩ := bcell hB; obtain ⟨hc_, hf_, hz_⟩ := bcell hb; clear hb) | (have hB := hb; clear hb; obtain ⟨hc, hf, hz⟩ := bcell hB)))
    go_region_held3 (fun W_ => (∀ b_ o_, b_ < (w').heap.size → W_.cell? ⟨b_, o_, none⟩ = (w').cell? ⟨b_, o_, none⟩) ∧ (∀ b_ o_, b_ < (w').heap.size → W_.frozen? ⟨b_, o_, none⟩ = (w').frozen? ⟨b_, o_, none⟩) ∧ (∀ k_, k_ < (w').heap.size → k_ < W_.heap.size) ∧ Below (w').heap.size (w') W_) (first | exact held_start _ | assumption | exact held_keep (by assumption) (by assumption) | exact held_keep (by assumption) ((Below.refl _ _).alloc (Nat.le_refl _) _) | exact held_of (by assumption)) (first | (go_at_call 32; refine (rsize_any _ _ _ _ _ _).mono ?_; rintro e w' ⟨rfl, hb⟩; rw [Hn.out]))
    all_goals go_wp2
    all_goals go_ret2
    all_goals (have hsz := hB.size; have hsz2 := hb.size; simp at hsz hsz2)
    all_goals exact ⟨(by repeat (first | (with_reducible exact Below.refl _ _) | (with_reducible refine Below.drew ?_) | (with_reducible refine below_drw ?_ _) | (with_reducible refine below_alloc ?_ _) | (with_reducible refine below_set ?_ (by simp <;> omega) _) | (refine below_of (by assumption) ?_))), .inr ⟨hv, _, _, n, rfl, by omega, by omega, rnew_ok _ Ho.out n Hn.out⟩⟩

/-- What the reference's Clone returns. -/
def RCloneIs (m : Med) (w : World) (e : Ending) (w' : World) : Prop :=
  Below w.heap.size w w' ∧ ∃ p q n, e = .returned (.pointer (some ⟨p, 0, none⟩)) ∧ w.heap.size ≤ p ∧ w.heap.size ≤ q ∧ IsRef w' p q n m

set_option maxHeartbeats 2000000 in
set_option maxRecDepth 1000000 in
theorem rclone_any (p q cap : Nat) (m : Med) (w : World) (h : IsRef w p q cap m) :
    Calls Try.prog 57 #[.pointer (some ⟨p, 0, none⟩)] w (RCloneIs m w) := by
  have c0 := h.c0
  have c1 := h.c1
  have c2 := h.c2
  have c3 := h.c3
  have c4 := h.c4
  have c5 := h.c5
  have hp := h.hasP.lt
  obtain ⟨xs, ho, hs⟩ := h.row
  have hle := h.good.len_le
  have Hx := Lib.hid ho.1
  have H1 := Lib.hid (hs.one ho.1)
  have Ho := Lib.hid ho
  have Hs := Lib.hid hs
  obtain ⟨i0, hinf, hz0, hz1, hz2⟩ := info_parts Try.info_rsectors
  clear ho hs
  go_enter Try.func57, Try.ntmps57
  go_wp2_with fail
  go_region_held3 (fun W_ => (∀ b_ o_, b_ < (w).heap.size → W_.cell? ⟨b_, o_, none⟩ = (w).cell? ⟨b_, o_, none⟩) ∧ (∀ b_ o_, b_ < (w).heap.size → W_.frozen? ⟨b_, o_, none⟩ = (w).frozen? ⟨b_, o_, none⟩) ∧ (∀ k_, k_ < (w).heap.size → k_ < W_.heap.size) ∧ Below (w).heap.size (w) W_) (first | exact held_start _ | assumption | exact held_keep (by assumption) (by assumption) | exact held_keep (by assumption) ((Below.refl _ _).alloc (Nat.le_refl _) _) | exact held_of (by assumption)) (first | (refine step_append_own rfl (.tmp 7) (.tmp 11) 140 rfl w.heap.size 167 i0 _ 2 24 Try.underlying140 hinf hz0 hz1 hz2 rfl (by decide) _ 0 [] rfl (World.ownsRow_made (base := w.heap.size) _ #[] 0 (by simp) (by decide) rfl) ⟨q, 0, none⟩ m.l.length cap xs rfl Hx.out ?_ H1.out ?_ ?_ ?_ ?_; (exact fun j u hj => cell_later (by repeat (first | (with_reducible exact Below.refl _ _) | (with_reducible refine Below.drew ?_) | (with_reducible refine below_drw ?_ _) | (with_reducible refine below_alloc ?_ _) | (with_reducible refine below_set ?_ (by simp <;> omega) _) | (refine below_of (by assumption) ?_))) (Ho.out.cells (g := q) rfl j u hj)); (unfold maxLen; omega); (omega); (simp); intro v' w' hown hgrow hnil; have hbw : Below w.heap.size w w' := Below.grown (by repeat (first | (with_reducible exact Below.refl _ _) | (with_reducible refine Below.drew ?_) | (with_reducible refine below_drw ?_ _) | (with_reducible refine below_alloc ?_ _) | (with_reducible refine below_set ?_ (by simp <;> omega) _) | (refine below_of (by assumption) ?_))) hgrow (by simp) (fun k hk => by injection hk with hk; subst hk; exact Nat.le_refl _); have hown2 : w'.ownsRow w.heap.size 167 2 v' m.l.length xs := (by rw [Nat.zero_add, List.nil_append] at hown; exact hown); clear hown hgrow; obtain ⟨g, c', rfl, hg, hg2⟩ := owns_form hown2 (fun h => by have h1 := (hnil.1 h).1; cases h1); have Hown := Lib.hid hown2; clear hown2 hnil))
  all_goals go_wp2
  all_goals go_ret
  all_goals (have hsz := hbw.size)
  all_goals exact ⟨below_alloc hbw _, _, g, c', rfl, hsz, hg, ⟨heap_alloc_new _ _, ⟨xs, owns_mono (Nat.zero_le _) (Hown.out.alloc _), Hs.out⟩, h.good⟩⟩
end Go.Proofs.Ytmloiifnadaaoaa
