/- The walks of package media: Clone of bytes, has, State, Read. -/
import Derived.Test.YtmloiifnadaaoaaGreatMedK
namespace Go.Proofs.YtmloiifnadaaoaaGreat
open Go.RowKit
set_option linter.unusedVariables false
set_option linter.unusedSimpArgs false

def byteVals (l : List UInt8) : List Value := l.map fun x : UInt8 => Value.int .u8 (x.toNat : Int)
theorem byteVals_len (l : List UInt8) : (byteVals l).length = l.length := by simp [byteVals]
theorem byteVals_one (l : List UInt8) : ∀ u ∈ byteVals l, u.oneCell' = true := by
  intro u hu
  obtain ⟨x, _, rfl⟩ := List.mem_map.1 hu
  rfl
theorem byteVals_get {l : List UInt8} {i : Nat} {x : UInt8} (h : l[i]? = some x) : (byteVals l)[i]? = some (.int .u8 (x.toNat : Int)) := by
  unfold byteVals; rw [List.getElem?_map, h]; rfl
theorem BytesRd.cells {w : World} {A : Option Addr} {l : List UInt8} (h : BytesRd w A l) : CellsRd w A (byteVals l) := by
  intro a ha j u hu
  unfold byteVals at hu
  rw [List.getElem?_map] at hu
  cases hx : l[j]? with
  | none => rw [hx] at hu; cases hu
  | some x =>
    rw [hx] at hu
    obtain rfl := Option.some.inj hu
    rcases h with rfl | ⟨g, off, h1, h2⟩
    · simp at hx
    · rw [ha] at h1
      obtain rfl := Option.some.inj h1
      rw [Addr.add_lit]
      exact h2 j x hx
theorem BytesRd.nil {w : World} {A : Option Addr} {l : List UInt8} (h : BytesRd w A l) : A = none → l.length = 0 := by
  rintro rfl
  rcases h with rfl | ⟨g, off, h1, _⟩
  · rfl
  · cases h1
theorem bytesT_of_row {w : World} {base : Nat} {v : Value} {l : List UInt8} (h : w.ownsRow base 5 1 v l.length (byteVals l)) : ∃ A c, v = .slice A l.length c ∧ BytesT w A l := by
  rcases h.2 with ⟨rfl, hn⟩ | ⟨g, cap, cur, rfl, _, hg, _, _, _, _⟩
  · exact ⟨none, 0, by rw [hn], .inl (List.eq_nil_of_length_eq_zero hn)⟩
  · refine ⟨_, _, rfl, .inr ⟨g, 0, rfl, ⟨_, _, hg⟩, fun i x hx => ?_⟩⟩
    have := h.cells (g := g) rfl i _ (byteVals_get hx)
    rw [Addr.add_lit] at this
    exact this

/-- slices.Clone of bytes. -/
theorem cloneBytes_any (A : Option Addr) (l : List UInt8) (c : Nat) (w : World) (h : BytesRd w A l) (hl : l.length ≤ 140737488351232) :
    Calls Tryz.prog 82 #[.slice A l.length c] w fun e w' => ∃ A' c', e = .returned (.slice A' l.length c') ∧ BytesT w' A' l ∧ Below w.heap.size w w' := by
  refine (clone_bytes A l.length c (byteVals l) w (by rw [byteVals_len]; omega) h.cells (byteVals_one l) (by omega) h.nil).mono ?_
  rintro e w' ⟨v, rfl, ho, hb, _⟩
  obtain ⟨A', c', rfl, ht⟩ := bytesT_of_row ho
  exact ⟨A', c', rfl, ht, hb⟩

set_option maxHeartbeats 1000000 in
theorem has_any (p q cap : Nat) (m : Med) (a : Int) (w : World) (h : IsMed w p q cap m) :
    Calls Tryz.prog 98 #[.pointer (some ⟨p, 0, none⟩), .int .i64 a] w fun e w' => e = .returned (.bool (m.has a)) ∧ w = w' := by
  have c5 := h.c5
  cases hh : m.has a with
  | false =>
    have h0 := Med.has_no.1 hh
    go_enter Tryz.func98, Tryz.ntmps98
    go_wp2
    all_goals go_ret
    all_goals exact ⟨ret_bool (by simp; try omega), rfl⟩
  | true =>
    obtain ⟨h0, h1⟩ := Med.has_iff.1 hh
    go_enter Tryz.func98, Tryz.ntmps98
    go_wp2
    go_ret
    exact ⟨ret_bool rfl, rfl⟩
theorem has_nil (a : Int) (w : World) :
    Calls Tryz.prog 98 #[.pointer none, .int .i64 a] w fun e w' => e = .returned (.bool false) ∧ w = w' := by
  go_enter Tryz.func98, Tryz.ntmps98
  go_wp2
  go_ret
  exact ⟨rfl, rfl⟩

theorem Med.state_no {m : Med} {a : Int} (h : m.has a = false) : m.state a = 0 := by unfold Med.state; rw [h]; rfl
theorem Med.state_yes {m : Med} {a : Int} (h : m.has a = true) : m.state a = (m.sec a).st := by unfold Med.state; rw [h]; rfl

set_option maxHeartbeats 1000000 in
theorem state_any (p q cap : Nat) (m : Med) (a : Int) (w : World) (h : IsMed w p q cap m) :
    Calls Tryz.prog 95 #[.pointer (some ⟨p, 0, none⟩), .int .i64 a] w fun e w' => e = .returned (.int .i64 (m.state a)) ∧ w = w' := by
  have c5 := h.c5
  cases hh : m.has a with
  | false =>
    rw [Med.state_no hh]
    go_enter Tryz.func95, Tryz.ntmps95
    go_wp2_with ((go_at_call 98; refine (has_any p q cap m a _ h).mono ?_; rintro e w' ⟨rfl, rfl⟩))
    go_ret
    exact ⟨rfl, rfl⟩
  | true =>
    rw [Med.state_yes hh]
    obtain ⟨h0, h1⟩ := Med.has_iff.1 hh
    obtain ⟨k, rfl⟩ := Int.eq_ofNat_of_zero_le h0
    have hk : k < m.l.length := by omega
    obtain ⟨A, c, s0, s1, _, _⟩ := h.sec hk
    go_enter Tryz.func95, Tryz.ntmps95
    go_wp2_with ((go_at_call 98; refine (has_any p q cap m _ _ h).mono ?_; rintro e w' ⟨rfl, rfl⟩))
    go_ret
    exact ⟨rfl, rfl⟩
theorem state_nil (a : Int) (w : World) : Calls Tryz.prog 95 #[.pointer none, .int .i64 a] w fun e w' => e = .returned (.int .i64 0) ∧ w = w' := by
  go_enter Tryz.func95, Tryz.ntmps95
  go_wp2_with ((go_at_call 98; refine (has_nil _ _).mono ?_; rintro e w' ⟨rfl, rfl⟩))
  go_ret
  exact ⟨rfl, rfl⟩

/-- A read's results. -/
def ReadIs (m : Med) (a : Int) (w : World) (e : Ending) (w' : World) : Prop :=
  ∃ A c, e = .returned (.tuple #[.slice A (m.readB a).length c, .int .i64 (m.readE a)]) ∧ BytesT w' A (m.readB a) ∧ Below w.heap.size w w'

theorem Med.read_no {m : Med} {a : Int} (h : m.has a = false) : m.readE a = 2 ∧ m.readB a = [] := by
  have : m.readE a = 2 := by unfold Med.readE; rw [if_pos h]
  exact ⟨this, by unfold Med.readB; rw [if_neg (by rw [this]; decide)]⟩
theorem Med.read_bad {m : Med} {a : Int} (h : m.has a = true) (hs : (m.sec a).st ≠ 1) : m.readE a = 15 ∧ m.readB a = [] := by
  have : m.readE a = 15 := by unfold Med.readE; rw [if_neg (by rw [h]; decide), if_pos hs]
  exact ⟨this, by unfold Med.readB; rw [if_neg (by rw [this]; decide)]⟩
theorem Med.read_ok {m : Med} {a : Int} (h : m.has a = true) (hs : (m.sec a).st = 1) : m.readE a = 0 ∧ m.readB a = (m.sec a).bs := by
  have : m.readE a = 0 := by unfold Med.readE; rw [if_neg (by rw [h]; decide), if_neg (by simp [hs])]
  exact ⟨this, by unfold Med.readB; rw [if_pos this]⟩

set_option maxHeartbeats 1000000 in
theorem read_any (p q cap : Nat) (m : Med) (a : Int) (w : World) (h : IsMed w p q cap m) :
    Calls Tryz.prog 86 #[.pointer (some ⟨p, 0, none⟩), .int .i64 a] w (ReadIs m a w) := by
  have c5 := h.c5
  cases hh : m.has a with
  | false =>
    obtain ⟨e1, e2⟩ := Med.read_no hh
    have H1 := Lib.hid e1
    have H2 := Lib.hid e2
    clear e1 e2
    go_enter Tryz.func86, Tryz.ntmps86
    go_wp2_with ((go_at_call 98; refine (has_any p q cap m a _ h).mono ?_; rintro e w' ⟨rfl, rfl⟩))
    go_ret2
    exact ⟨none, 0, by rw [H1.out, H2.out]; rfl, .inl H2.out, (by repeat (first | (with_reducible exact Below.refl _ _) | (with_reducible refine Below.drew ?_) | (with_reducible refine below_drw ?_ _) | (with_reducible refine below_alloc ?_ _) | (with_reducible refine below_set ?_ (by simp <;> omega) _) | (refine below_of (by assumption) ?_)))⟩
  | true =>
    obtain ⟨h0, h1⟩ := Med.has_iff.1 hh
    obtain ⟨k, rfl⟩ := Int.eq_ofNat_of_zero_le h0
    have hk : k < m.l.length := by omega
    obtain ⟨A, c, s0, s1, hbt, h64⟩ := h.sec hk
    by_cases hst : (m.sec k).st = 1
    · obtain ⟨e1, e2⟩ := Med.read_ok hh hst
      have H1 := Lib.hid e1
      have H2 := Lib.hid e2
      have hst1 : ((m.sec k).st != 1) = false := by simp [hst]
      clear e1 e2 hst
      go_enter Tryz.func86, Tryz.ntmps86
      go_wp2_with (first | ((go_at_call 98; refine (has_any p q cap m _ _ h).mono ?_; rintro e w' ⟨rfl, rfl⟩)) | (go_at_call 82; refine (cloneBytes_any _ (m.sec k).bs _ _ hbt.rd (by omega)).mono ?_; rintro e w' ⟨A', c', rfl, hbt', hb⟩))
      go_ret2
      exact ⟨A', c', by rw [H1.out, H2.out]; rfl, by rw [H2.out]; exact hbt', hb⟩
    · obtain ⟨e1, e2⟩ := Med.read_bad hh hst
      have H1 := Lib.hid e1
      have H2 := Lib.hid e2
      have hst1 : ((m.sec k).st != 1) = true := by simp [hst]
      clear e1 e2 hst
      go_enter Tryz.func86, Tryz.ntmps86
      go_wp2_with ((go_at_call 98; refine (has_any p q cap m _ _ h).mono ?_; rintro e w' ⟨rfl, rfl⟩))
      go_ret2
      exact ⟨none, 0, by rw [H1.out, H2.out]; rfl, .inl H2.out, (by repeat (first | (with_reducible exact Below.refl _ _) | (with_reducible refine Below.drew ?_) | (with_reducible refine below_drw ?_ _) | (with_reducible refine below_alloc ?_ _) | (with_reducible refine below_set ?_ (by simp <;> omega) _) | (refine below_of (by assumption) ?_)))⟩
theorem read_nil (a : Int) (w : World) : Calls Tryz.prog 86 #[.pointer none, .int .i64 a] w fun e w' => e = .returned (.tuple #[.slice none 0 0, .int .i64 8]) ∧ w = w' := by
  go_enter Tryz.func86, Tryz.ntmps86
  go_wp2
  go_ret2
  exact ⟨rfl, rfl⟩
end Go.Proofs.YtmloiifnadaaoaaGreat
/- The walks of package media: New, Geometry, Clone. -/
namespace Go.Proofs.YtmloiifnadaaoaaGreat
open Go.RowKit
set_option linter.unusedVariables false
set_option linter.unusedSimpArgs false

theorem run_make_rows {P : Program} (t e : TypeId) (i : TypeInfo) (z : Value) (ht : P.underlying t = some (.slice e)) (hi : P.info? e = some i) (hz : i.zero = some z)
    (n : Nat) (hbytes : i.bytes * n ≤ 281474976710656) (h63 : n ≤ 9223372036854775807) (w : World) :
    (Instr.makeSlice t (.int .i64 (n : Int)) (.int .i64 (n : Int))).run P w = .ok (.slice (some ⟨w.heap.size, 0, none⟩) n n) (w.alloc (.cells (madeCells z.cells (n * i.size)) e)) := by
  have hb : (i.bytes : Int) * (n : Int) ≤ 281474976710656 := by
    have h : ((i.bytes * n : Nat) : Int) ≤ 281474976710656 := by omega
    rwa [Int.natCast_mul] at h
  have hr := run_make (P := P) w t e i z ht hi hz .i64 .i64 n n (by omega) (by omega) hb (by omega)
  simp only [Int.toNat_natCast] at hr
  exact hr

theorem made_get (z : Array Value) (n i : Nat) (h : i < n) : (madeCells z n).toList[i]? = some (z[i % z.size]!) := by
  simp [madeCells, h]

theorem new_ok {r b t s o : Int} (W : World) (ho : (Geo.mk r b t s o).Ok) (n : Nat) (hn : (Geo.mk r b t s o).size = (n : Int)) :
    IsMed ((W.alloc (.cells (madeCells #[.int .i64 0, .slice none 0 0] (n * 2)) 133)).alloc (.cells #[.int .i64 r, .int .i64 b, .int .i64 t, .int .i64 s, .int .i64 o, .slice (some ⟨W.heap.size, 0, none⟩) n n] 126))
      (W.heap.size + 1) W.heap.size n (Med.new (Geo.mk r b t s o)) := by
  have hN : (Med.new (Geo.mk r b t s o)).l.length = n := by simp [Med.new, hn]
  have hle := (Geo.size_bd (Geo.mk r b t s o)).2
  rw [hn] at hle
  refine ⟨?_, ⟨(madeCells #[.int .i64 0, .slice none 0 0] (n * 2)).toList, ?_, ?_⟩, Med.good_new ho⟩
  · rw [hN]
    have := heap_alloc_new (W.alloc (.cells (madeCells #[.int .i64 0, .slice none 0 0] (n * 2)) 133)) (.cells #[.int .i64 r, .int .i64 b, .int .i64 t, .int .i64 s, .int .i64 o, .slice (some ⟨W.heap.size, 0, none⟩) n n] 126)
    simpa [Med.new] using this
  · rw [hN]
    exact (World.ownsRow_lit W _ n (Nat.zero_le _) (by unfold maxLen; omega) (by simp [size_madeCells])).alloc _
  · intro i x hx
    have hx' : x = Sec.blank ∧ i < n := by
      simp only [Med.new, hn, Int.toNat_natCast] at hx
      have h1 := List.mem_of_getElem? hx
      have h2 := (List.getElem?_eq_some_iff.1 hx).1
      exact ⟨(List.mem_replicate.1 h1).2, by simpa using h2⟩
    obtain ⟨rfl, hi⟩ := hx'
    refine ⟨none, 0, ?_, ?_, .inl rfl⟩
    · rw [made_get _ _ _ (by omega)]
      simp [Sec.blank]
    · rw [made_get _ _ _ (by omega)]
      simp [Sec.blank, Nat.add_mod]

/-- What New returns. -/
def NewIs (r b t s o : Int) (w : World) (e : Ending) (w' : World) : Prop :=
  Below w.heap.size w w' ∧ (((Geo.mk r b t s o).ok = false ∧ e = .returned (.tuple #[.pointer none, .int .i64 1])) ∨
      ((Geo.mk r b t s o).ok = true ∧ ∃ p q n, e = .returned (.tuple #[.pointer (some ⟨p, 0, none⟩), .int .i64 0]) ∧ w.heap.size ≤ p ∧ w.heap.size ≤ q ∧ IsMed w' p q n (Med.new (Geo.mk r b t s o))))

set_option maxHeartbeats 2000000 in
theorem new_any (r b t s o : Int) (w : World) : Calls Tryz.prog 47 #[.agg #[.int .i64 r, .int .i64 b, .int .i64 t, .int .i64 s, .int .i64 o]] w (NewIs r b t s o w) := by
  cases hv : (Geo.mk r b t s o).ok with
  | false =>
    go_enter Tryz.func47, Tryz.ntmps47
    go_wp2_with (go_at_call 77; refine (valid_any _ _ _ _ _ _).mono ?_; rintro e w' ⟨rfl, hb⟩; (first | ((first | have hB1 := below_of hb hB | have hB1 := below_of hb (Below.drew hB) | have hB1 := below_of hb (below_drw hB _)); clear hB hb hc hf hz; have hB := hB1; clear hB1; obtain ⟨hc, hf, hz⟩ := bcell hB) | ((first | have hB1 := below_of hb (below_alloc hB _) | have hB1 := below_of hb (below_alloc (below_alloc hB _) _) | have hB1 := below_of hb (below_alloc (below_alloc (below_alloc hB _) _) _) | have hB1 := below_of hb (below_alloc (below_alloc (below_alloc (below_alloc hB _) _) _) _) | have hB1 := below_of hb (below_alloc (below_alloc (below_alloc (below_alloc (below_alloc hB _) _) _) _) _) | have hB1 := below_of hb (Below.drew (below_alloc hB _)) | have hB1 := below_of hb (Below.drew (below_alloc (below_alloc hB _) _)) | have hB1 := below_of hb (Below.drew (below_alloc (below_alloc (below_alloc hB _) _) _)) | have hB1 := below_of hb (Below.drew (below_alloc (below_alloc (below_alloc (below_alloc hB _) _) _) _)) | have hB1 := below_of hb (Below.drew (below_alloc (below_alloc (below_alloc (below_alloc (below_alloc hB _) _) _) _) _)) | have hB1 := below_of hb (below_drw (below_alloc hB _) _) | have hB1 := below_of hb (below_drw (below_alloc (below_alloc hB _) _) _) | have hB1 := below_of hb (below_drw (below_alloc (below_alloc (below_alloc hB _) _) _) _) | have hB1 := below_of hb (below_drw (below_alloc (below_alloc (below_alloc (below_alloc hB _) _) _) _) _) | have hB1 := below_of hb (below_drw (below_alloc (below_alloc (below_alloc (below_alloc (below_alloc hB _) _) _) _) _) _)); clear hB hc hf hz; have hB := hB1; clear hB1; obtain ⟨hc, hf, hz⟩ := bcell hB; obtain ⟨hc_, hf_, hz_⟩ := bcell hb; clear hb) | (have hB := hb; clear hb; obtain ⟨hc, hf, hz⟩ := bcell hB)))
    go_ret2
    exact ⟨(by repeat (first | (with_reducible exact Below.refl _ _) | (with_reducible refine Below.drew ?_) | (with_reducible refine below_drw ?_ _) | (with_reducible refine below_alloc ?_ _) | (with_reducible refine below_set ?_ (by simp <;> omega) _) | (refine below_of (by assumption) ?_))), .inl ⟨hv, rfl⟩⟩
  | true =>
    have ho := Geo.ok_iff.1 hv
    obtain ⟨n, hn⟩ := Int.eq_ofNat_of_zero_le (Geo.size_bd (Geo.mk r b t s o)).1
    have hle := (Geo.size_bd (Geo.mk r b t s o)).2
    rw [hn] at hle
    have Hn := Lib.hid hn
    have Ho := Lib.hid ho
    clear hn ho
    obtain ⟨i0, hinf, hz0, hz1, hz2⟩ := info_parts Tryz.info_sectors
    have hmk := fun W => run_make_rows (P := Tryz.prog) 124 133 i0 _ Tryz.underlying124 hinf hz0 n (by rw [hz2]; omega) (by omega) W
    rw [hz1] at hmk
    simp only [Value.cells] at hmk
    go_enter Tryz.func47, Tryz.ntmps47
    go_wp2_with (go_at_call 77; refine (valid_any _ _ _ _ _ _).mono ?_; rintro e w' ⟨rfl, hb⟩; (first | ((first | have hB1 := below_of hb hB | have hB1 := below_of hb (Below.drew hB) | have hB1 := below_of hb (below_drw hB _)); clear hB hb hc hf hz; have hB := hB1; clear hB1; obtain ⟨hc, hf, hz⟩ := bcell hB) | ((first | have hB1 := below_of hb (below_alloc hB _) | have hB1 := below_of hb (below_alloc (below_alloc hB _) _) | have hB1 := below_of hb (below_alloc (below_alloc (below_alloc hB _) _) _) | have hB1 := below_of hb (below_alloc (below_alloc (below_alloc (below_alloc hB _) _) _) _) | have hB1 := below_of hb (below_alloc (below_alloc (below_alloc (below_alloc (below_alloc hB _) _) _) _) _) | have hB1 := below_of hb (Below.drew (below_alloc hB _)) | have hB1 := below_of hb (Below.drew (below_alloc (below_alloc hB _) _)) | have hB1 := below_of hb (Below.drew (below_alloc (below_alloc (below_alloc hB _) _) _)) | have hB1 := below_of hb (Below.drew (below_alloc (below_alloc (below_alloc (below_alloc hB _) _) _) _)) | have hB1 := below_of hb (Below.drew (below_alloc (below_alloc (below_alloc (below_alloc (below_alloc hB _) _) _) _) _)) | have hB1 := below_of hb (below_drw (below_alloc hB _) _) | have hB1 := below_of hb (below_drw (below_alloc (below_alloc hB _) _) _) | have hB1 := below_of hb (below_drw (below_alloc (below_alloc (below_alloc hB _) _) _) _) | have hB1 := below_of hb (below_drw (below_alloc (below_alloc (below_alloc (below_alloc hB _) _) _) _) _) | have hB1 := below_of hb (below_drw (below_alloc (below_alloc (below_alloc (below_alloc (below_alloc hB _) _) _) _) _) _)); clear hB hc hf hz; have hB := hB1; clear hB1; obtain ⟨hc, hf, hz⟩ := bcell hB; obtain ⟨hc_, hf_, hz_⟩ := bcell hb; clear hb) | (have hB := hb; clear hb; obtain ⟨hc, hf, hz⟩ := bcell hB)))
    go_region_held3 (fun W_ => (∀ b_ o_, b_ < (w').heap.size → W_.cell? ⟨b_, o_, none⟩ = (w').cell? ⟨b_, o_, none⟩) ∧ (∀ b_ o_, b_ < (w').heap.size → W_.frozen? ⟨b_, o_, none⟩ = (w').frozen? ⟨b_, o_, none⟩) ∧ (∀ k_, k_ < (w').heap.size → k_ < W_.heap.size) ∧ Below (w').heap.size (w') W_) (first | exact held_start _ | assumption | exact held_keep (by assumption) (by assumption) | exact held_keep (by assumption) ((Below.refl _ _).alloc (Nat.le_refl _) _) | exact held_of (by assumption)) (first | (go_at_call 78; refine (size_any _ _ _ _ _ _).mono ?_; rintro e w' ⟨rfl, hb⟩; rw [Hn.out]))
    all_goals go_wp2
    all_goals go_ret2
    all_goals (have hsz := hB.size; have hsz2 := hb.size; simp at hsz hsz2)
    all_goals exact ⟨(by repeat (first | (with_reducible exact Below.refl _ _) | (with_reducible refine Below.drew ?_) | (with_reducible refine below_drw ?_ _) | (with_reducible refine below_alloc ?_ _) | (with_reducible refine below_set ?_ (by simp <;> omega) _) | (refine below_of (by assumption) ?_))), .inr ⟨hv, _, _, n, rfl, by omega, by omega, new_ok _ Ho.out n Hn.out⟩⟩

theorem Secs.one {w : World} {xs : List Value} {l : List Sec} (h : Secs w xs l) (hx : xs.length = l.length * 2) : ∀ u ∈ xs, u.oneCell' = true := by
  intro u hu
  obtain ⟨j, hj, rfl⟩ := List.getElem_of_mem hu
  have hi : j / 2 < l.length := by omega
  obtain ⟨A, c, h1, h2, _⟩ := h (j / 2) _ (List.getElem?_eq_getElem hi)
  rcases Nat.mod_two_eq_zero_or_one j with h0 | h0
  · have e : j / 2 * 2 = j := by omega
    rw [e, List.getElem?_eq_getElem hj] at h1
    rw [Option.some.inj h1]; rfl
  · have e : j / 2 * 2 + 1 = j := by omega
    rw [e, List.getElem?_eq_getElem hj] at h2
    rw [Option.some.inj h2]; rfl
theorem cloneSecs_any (q cap : Nat) (xs : List Value) (l : List Sec) (w : World) (ho : w.ownsRow 0 133 2 (.slice (some ⟨q, 0, none⟩) l.length cap) l.length xs) (hs : Secs w xs l) (hn : l.length ≤ 81920) :
    Calls Tryz.prog 92 #[.slice (some ⟨q, 0, none⟩) l.length cap] w fun e w' => ∃ g c, e = .returned (.slice (some ⟨g, 0, none⟩) l.length c) ∧ w.heap.size ≤ g ∧
      w'.ownsRow 0 133 2 (.slice (some ⟨g, 0, none⟩) l.length c) l.length xs ∧ Secs w' xs l ∧ Below w.heap.size w w' := by
  refine (clone_sectors (some ⟨q, 0, none⟩) l.length cap xs w ho.1 (fun a ha j u hu => by obtain rfl := Option.some.inj ha; exact ho.cells (g := q) rfl j u hu) (hs.one ho.1) (by omega) (fun h => by cases h)).mono ?_
  rintro e w' ⟨v, rfl, hv, hb, hnil⟩
  have hv' := hv.2
  rcases hv' with ⟨h1, _⟩ | ⟨g, c, cur, rfl, hg, _⟩
  · exact absurd (hnil.1 h1) (by simp)
  · exact ⟨g, c, rfl, hg, owns_mono (Nat.zero_le _) hv, hs.keep (Fr.ofBelow hb (fun _ => False)) (fun _ h => h.elim), hb⟩

/-- What Clone returns. -/
def CloneIs (m : Med) (w : World) (e : Ending) (w' : World) : Prop :=
  Below w.heap.size w w' ∧ ∃ p q n, e = .returned (.pointer (some ⟨p, 0, none⟩)) ∧ w.heap.size ≤ p ∧ w.heap.size ≤ q ∧ IsMed w' p q n m

set_option maxHeartbeats 2000000 in
theorem mclone_any (p q cap : Nat) (m : Med) (w : World) (h : IsMed w p q cap m) :
    Calls Tryz.prog 71 #[.pointer (some ⟨p, 0, none⟩)] w (CloneIs m w) := by
  have c0 := h.c0
  have c1 := h.c1
  have c2 := h.c2
  have c3 := h.c3
  have c4 := h.c4
  have c5 := h.c5
  have hp := h.hasP.lt
  obtain ⟨xs, ho, hs⟩ := h.row
  have Ho := Lib.hid ho
  have Hs := Lib.hid hs
  have hle := h.good.len_le
  clear ho hs
  go_enter Tryz.func71, Tryz.ntmps71
  go_wp2_with fail
  go_region_held3 (fun W_ => (∀ b_ o_, b_ < (w).heap.size → W_.cell? ⟨b_, o_, none⟩ = (w).cell? ⟨b_, o_, none⟩) ∧ (∀ b_ o_, b_ < (w).heap.size → W_.frozen? ⟨b_, o_, none⟩ = (w).frozen? ⟨b_, o_, none⟩) ∧ (∀ k_, k_ < (w).heap.size → k_ < W_.heap.size) ∧ Below (w).heap.size (w) W_) (first | exact held_start _ | assumption | exact held_keep (by assumption) (by assumption) | exact held_keep (by assumption) ((Below.refl _ _).alloc (Nat.le_refl _) _) | exact held_of (by assumption)) (first | (go_at_call 92; refine (cloneSecs_any q cap xs m.l _ ?_ ?_ hle).mono ?_; (exact Ho.out); (exact Hs.out); rintro e w' ⟨g, c', rfl, hg, hrow, hsec, hb⟩; have Hrow := Lib.hid hrow; have Hsec := Lib.hid hsec; clear hrow hsec))
  all_goals go_wp2
  all_goals go_ret
  all_goals (have hsz := hb.size; simp at hsz hg)
  all_goals exact ⟨(by repeat (first | (with_reducible exact Below.refl _ _) | (with_reducible refine Below.drew ?_) | (with_reducible refine below_drw ?_ _) | (with_reducible refine below_alloc ?_ _) | (with_reducible refine below_set ?_ (by simp <;> omega) _) | (refine below_of (by assumption) ?_))), _, g, c', rfl, by omega, by omega, ⟨heap_alloc_new _ _, ⟨xs, Hrow.out.alloc _, Hsec.out.keep ((Fr.refl (fun _ => False) _).alloc _) (fun _ h => h.elim)⟩, h.good⟩⟩
theorem mclone_nil (w : World) : Calls Tryz.prog 71 #[.pointer none] w fun e w' => e = .returned (.pointer none) ∧ w = w' := by
  go_enter Tryz.func71, Tryz.ntmps71
  go_wp2
  go_ret
  exact ⟨rfl, rfl⟩
end Go.Proofs.YtmloiifnadaaoaaGreat
/- The walks of package media: Write, Erase. -/
namespace Go.Proofs.YtmloiifnadaaoaaGreat
open Go.RowKit
set_option linter.unusedVariables false
set_option linter.unusedSimpArgs false

/-- What a write or an erasure leaves. -/
def OpIs (c : Int) (p q cap : Nat) (m : Med) (w : World) (e : Ending) (w' : World) : Prop :=
  e = .returned (.int .i64 c) ∧ IsMed w' p q cap m ∧ Fr (· = q) w w'

/-- What holds throughout the statement that stores a sector. -/
def HeldM (w : World) (p q : Nat) (u : Value) (W : World) : Prop := W.cell? ⟨p, 5, none⟩ = some u ∧ Fr (· = q) w W
theorem heldM_start {w : World} {p q : Nat} {u : Value} (h : w.cell? ⟨p, 5, none⟩ = some u) : HeldM w p q u w.drew := ⟨h, (Fr.refl _ _).drew⟩
theorem heldM_call {w : World} {p q : Nat} {u : Value} {W W' : World} (h : HeldM w p q u W) (hb : Below W.heap.size W W') : HeldM w p q u W' := ⟨cell_later hb h.1, h.2.call hb⟩
theorem heldM_set {w : World} {p q : Nat} {u : Value} {W : World} {i j : Nat} {x y : Value} (h : HeldM w p q u W) (hne : p ≠ q) : HeldM w p q u ((W.setCell ⟨q, i, none⟩ x).setCell ⟨q, j, none⟩ y) :=
  ⟨by
    have e1 : (⟨q, i, none⟩ : Addr) ≠ ⟨p, 5, none⟩ := fun e => hne (by injection e with e; exact e.symm)
    have e2 : (⟨q, j, none⟩ : Addr) ≠ ⟨p, 5, none⟩ := fun e => hne (by injection e with e; exact e.symm)
    rw [World.cell?_setCell_other _ _ _ _ e2, World.cell?_setCell_other _ _ _ _ e1]
    exact h.1,
    (h.2.setCell (p := ⟨q, i, none⟩) (.inl rfl) _).setCell (p := ⟨q, j, none⟩) (.inl rfl) _⟩

set_option maxHeartbeats 2000000 in
set_option maxRecDepth 1000000 in
theorem write_any (p q cap : Nat) (m : Med) (a : Int) (A : Option Addr) (l : List UInt8) (c : Nat) (w : World) (h : IsMed w p q cap m) (hl : BytesRd w A l) (hlen : l.length ≤ 140737488351232) :
    Calls Tryz.prog 85 #[.pointer (some ⟨p, 0, none⟩), .int .i64 a, .slice A l.length c] w (OpIs (m.writeE a l) p q cap (m.write a l) w) := by
  cases hh : m.has a with
  | false =>
    have e1 : m.writeE a l = 2 := by unfold Med.writeE; rw [if_pos hh]
    have e2 : m.write a l = m := by unfold Med.write; rw [if_neg (by rw [e1]; decide)]
    rw [e1, e2]
    clear e1 e2
    go_enter Tryz.func85, Tryz.ntmps85
    go_wp2_with ((go_at_call 98; refine (has_any p q cap m a _ h).mono ?_; rintro e w' ⟨rfl, rfl⟩))
    go_ret
    exact ⟨rfl, h, Fr.refl _ _⟩
  | true =>
    by_cases h64 : 64 < l.length
    · have e1 : m.writeE a l = 7 := by unfold Med.writeE; rw [if_neg (by rw [hh]; decide), if_pos h64]
      have e2 : m.write a l = m := by unfold Med.write; rw [if_neg (by rw [e1]; decide)]
      rw [e1, e2]
      clear e1 e2
      go_enter Tryz.func85, Tryz.ntmps85
      go_wp2_with ((go_at_call 98; refine (has_any p q cap m a _ h).mono ?_; rintro e w' ⟨rfl, rfl⟩))
      go_ret
      exact ⟨rfl, h, Fr.refl _ _⟩
    · have e1 : m.writeE a l = 0 := Med.writeE_zero.2 ⟨hh, by omega⟩
      have e2 : m.write a l = { m with l := Med.kill (m.l.set a.toNat ⟨1, l⟩) (m.g.shadow a) } := by unfold Med.write; rw [if_pos e1]
      rw [e1, e2]
      have E2 := Lib.hid e2
      clear e1 e2
      have c5 := h.c5
      obtain ⟨h0, h1⟩ := Med.has_iff.1 hh
      obtain ⟨k, rfl⟩ := Int.eq_ofNat_of_zero_le h0
      have hk : k < m.l.length := by omega
      obtain ⟨A0, cc0, s0, s1, _, _⟩ := h.sec hk
      have f0 := h.free (k * 2)
      have f1 := h.free (k * 2 + 1)
      have hpl := h.hasP.lt
      have hne := h.ne
      have hql := h.hasQ.lt
      go_enter Tryz.func85, Tryz.ntmps85
      go_wp2_with ((go_at_call 98; refine (has_any p q cap m _ _ h).mono ?_; rintro e w' ⟨rfl, rfl⟩))
      go_region_held3 (fun W_ => W_.cell? ⟨p, 5, none⟩ = some (.slice (some ⟨q, 0, none⟩) m.l.length cap) ∧ Fr (· = q) w W_) (first | exact heldM_start c5 | exact heldM_call (by assumption) (by assumption) | exact heldM_set (by assumption) hne) (first | (go_at_call 82; refine (cloneBytes_any A l c _ ?_ hlen).mono ?_; (exact hl); rintro e w' ⟨A', c', rfl, hbt, hb⟩; have Hbt := Lib.hid hbt; clear hbt; have s0' := cell_later hb (show w.drew.cell? ⟨q, k * 2, none⟩ = _ from s0); have s1' := cell_later hb (show w.drew.cell? ⟨q, k * 2 + 1, none⟩ = _ from s1); have f0' := (hb.frozen (p := ⟨q, k * 2, none⟩) hql).trans f0; have f1' := (hb.frozen (p := ⟨q, k * 2 + 1, none⟩) hql).trans f1))
      have hb' : Below w.heap.size w w' := below_undrew hb
      have M2 := (h.below hb').put (a := k) (s := ⟨1, l⟩) (c := c') Hbt.out (by simp only; omega)
      have F2 : Fr (· = q) w ((w'.setCell ⟨q, k * 2, none⟩ (.int .i64 1)).setCell ⟨q, k * 2 + 1, none⟩ (.slice A' l.length c')) := ((Fr.ofBelow hb' (· = q)).setCell (p := ⟨q, k * 2, none⟩) (.inl rfl) _).setCell (p := ⟨q, k * 2 + 1, none⟩) (.inl rfl) _
      simp only at M2
      clear s0 s1 f0 f1 c5 s0' s1' f0' f1' hb hb'
      revert M2 F2
      generalize (w'.setCell ⟨q, k * 2, none⟩ (.int .i64 1)).setCell ⟨q, k * 2 + 1, none⟩ (.slice A' l.length c') = W2
      intro M2 F2
      have hN := Geo.nsh_le m.g k
      have hlenS := Lib.hid (Geo.shadow_len m.g k)
      have hin := Lib.hid (fun x hx => Med.shadow_has h.good (a := (k : Int)) (s := x) hx)
      have c0 := M2.c0
      have c1 := M2.c1
      have c2 := M2.c2
      have c3 := M2.c3
      have c4 := M2.c4
      simp only at c0 c1 c2 c3 c4
      have hq2 : q < W2.heap.size := Nat.lt_of_lt_of_le hql F2.size
      generalize hS : m.g.shadow k = S at *
      have HS := Lib.hid hS
      clear hS
      go_wp2_with (go_at_call 99; refine (shadow_any _ _ _ _ _ _ _).mono ?_; rintro e w3 ⟨v, rfl, hv, hb3⟩; rw [show (Geo.mk m.g.r m.g.b m.g.t m.g.s m.g.o).shadow (k : Int) = S from HS.out] at hv; obtain ⟨A3, cc3, hveq, hrd⟩ := intsRd_of hv; have hgq : ∀ g off, A3 = some ⟨g, off, none⟩ → S.length ≠ 0 → g ≠ q := (by intro g off hA hne0; have := hv.lt g (by rw [hveq, hA]; rfl); omega); subst hveq; have Hv := Lib.hid hrd; have Hgq := Lib.hid hgq; clear hv hrd hgq)
      have M3 := M2.below hb3
      have F3 := F2.call hb3
      have HM3 := Lib.hid M3
      clear c0 c1 c2 c3 c4 M2 M3 F2
      have hmx : S.length ≤ 3 := by rw [hlenS.out]; exact hN
      go_loopw [37] (fun i wr => ∃ j : Nat, j ≤ S.length ∧ i = .int .i64 j ∧ IsMed wr p q cap { m with l := Med.kill (m.l.set k ⟨1, l⟩) (S.take j) } ∧ Fr (· = q) w wr ∧ Fr (· = q) w3 wr) (fun i _ => S.length - (intOf i).toNat)
      case atStart => exact ⟨0, Nat.zero_le _, rfl, HM3.out, F3, Fr.refl _ _⟩
      case round =>
        obtain ⟨j, hj, rfl, M, F, G⟩ := hrel
        by_cases hjn : j < S.length
        · have hx : S[j]? = some S[j] := List.getElem?_eq_getElem hjn
          have hmem : S[j] ∈ S := List.getElem_mem hjn
          have htk : S.take (j + 1) = S.take j ++ [S[j]] := List.take_succ_eq_append_getElem hjn
          generalize S[j] = x at *
          have hhx := hin.out x hmem
          obtain ⟨x0, x1⟩ := Med.has_iff.1 hhx
          obtain ⟨t, rfl⟩ := Int.eq_ofNat_of_zero_le x0
          have hcl : ∃ g off, A3 = some ⟨g, off, none⟩ ∧ wr.cell? ⟨g, off + j, none⟩ = some (.int .i64 (t : Int)) := by
            rcases Hv.out.2 with h1 | ⟨g, off, h1, h2⟩
            · rw [h1] at hjn; simp at hjn
            · exact ⟨g, off, h1, G.cell (h2 j _ hx) (Hgq.out g off h1 (by omega))⟩
          obtain ⟨g, off, rfl, hcl⟩ := hcl
          have Htk := Lib.hid htk
          clear htk hx hmem hhx
          have hkl : (Med.kill (m.l.set k ⟨1, l⟩) (S.take j)).length = m.l.length := by rw [Med.kill_len, List.length_set]
          have ht : t < (Med.kill (m.l.set k ⟨1, l⟩) (S.take j)).length := by omega
          obtain ⟨A0, cc0, s0, s1, _, _⟩ := M.sec ht
          have f0 := M.free (t * 2)
          have f1 := M.free (t * 2 + 1)
          have c5 := M.c5
          simp only at c5
          have HM := Lib.hid M
          have HF := Lib.hid F
          have HG := Lib.hid G
          rw [hkl] at c5
          clear M F G hkl ht
          go_wp2_with fail
          go_roundw
          case rel =>
            refine ⟨j + 1, by omega, by go_num, ?_, HF.out.set2 rfl, HG.out.set2 rfl⟩
            rw [Htk.out, Med.kill_snoc, Int.toNat_natCast]
            exact HM.out.put (a := t) (s := Sec.dead) (A := none) (c := 0) (.inl rfl) (by simp [Sec.dead])
          case measure => simp [intOf]; omega
        · have htk : S.take j = S := List.take_of_length_le (by omega)
          rw [htk] at M
          have HM := Lib.hid M
          clear M htk G
          go_wp2_with fail
          go_ret
          refine ⟨rfl, ?_, F⟩
          rw [Int.toNat_natCast]
          exact HM.out
theorem write_nil (a : Int) (A : Option Addr) (n c : Nat) (w : World) : Calls Tryz.prog 85 #[.pointer none, .int .i64 a, .slice A n c] w fun e w' => e = .returned (.int .i64 8) ∧ w = w' := by
  go_enter Tryz.func85, Tryz.ntmps85
  go_wp2
  go_ret
  exact ⟨rfl, rfl⟩

set_option maxHeartbeats 2000000 in
set_option maxRecDepth 1000000 in
theorem erase_any (p q cap : Nat) (m : Med) (k : Int) (w : World) (h : IsMed w p q cap m) :
    Calls Tryz.prog 88 #[.pointer (some ⟨p, 0, none⟩), .int .i64 k] w (OpIs (m.eraseE k) p q cap (m.erase k) w) := by
  have c0 := h.c0
  have c1 := h.c1
  have c2 := h.c2
  have c3 := h.c3
  have c4 := h.c4
  have c5 := h.c5
  have ho := h.good.ok
  have t0 := ho.t0
  have s0 := ho.s0
  by_cases hk : 0 ≤ k ∧ k < m.g.b
  · have e1 : m.eraseE k = 0 := by unfold Med.eraseE; rw [if_pos hk]
    have e2 : m.erase k = { m with l := Med.wipe m.l (m.g.r + k * (m.g.t * m.g.s)).toNat (m.g.t * m.g.s).toNat } := by unfold Med.erase; rw [if_pos e1]
    have e3 : m.g.adr k 0 0 = (m.g.r + k * (m.g.t * m.g.s), 0) := by
      rw [Geo.adr_in ho hk ⟨by omega, by omega⟩ ⟨by omega, by omega⟩, Int.add_zero, Int.add_zero, Int.mul_assoc]
    have e4 := Geo.bs_ok ho
    obtain ⟨b0, b1⟩ := Med.erase_has h.good hk
    have hts := ho.ts
    rw [e1, e2]
    have hlen := h.good.len_le
    obtain ⟨f, hf⟩ := Int.eq_ofNat_of_zero_le b0
    obtain ⟨n, hn⟩ := Int.eq_ofNat_of_zero_le (show 0 ≤ m.g.t * m.g.s by omega)
    rw [hf] at e3 b1 ⊢
    rw [hn] at b1 hts e4 ⊢
    have E3 := Lib.hid e3
    have E4 := Lib.hid e4
    have HM0 := Lib.hid h
    have hpl := h.hasP.lt
    clear e1 e2 e3 e4 b0 hf hn hk ho
    go_enter Tryz.func88, Tryz.ntmps88
    go_wp2_with (first | (go_at_call 100; refine (address_any _ _ _ _ _ _ _ _ _).mono ?_; rintro e w1 ⟨rfl, hb1⟩; rw [E3.out]; obtain ⟨hc1, hf1, hz1⟩ := bcell hb1) | (go_at_call 97; refine (bandSize_any _ _ _ _ _ _).mono ?_; rintro e w2 ⟨rfl, hb2⟩; rw [show (Geo.mk m.g.r m.g.b m.g.t m.g.s m.g.o).bs = (n : Int) from E4.out]; have hB2 := below_of hb2 hb1))
    have HM2 := Lib.hid (HM0.out.below hB2)
    clear c0 c1 c2 c3 c4 c5 hc1 hf1 hz1
    go_loopw [26] (fun i wr => ∃ j : Nat, j ≤ n ∧ i = .int .i64 j ∧ IsMed wr p q cap { m with l := Med.wipe m.l f j } ∧ Fr (· = q) w wr) (fun i _ => n - (intOf i).toNat)
    case atStart => exact ⟨0, Nat.zero_le _, rfl, HM2.out, Fr.ofBelow hB2 _⟩
    case round =>
      obtain ⟨j, hj, rfl, M, F⟩ := hrel
      have hwl : (Med.wipe m.l f j).length = m.l.length := Med.wipe_len _ _ _
      by_cases hjn : j < n
      · have ht : f + j < (Med.wipe m.l f j).length := by omega
        obtain ⟨A0, cc0, s0, s1, _, _⟩ := M.sec ht
        have f0 := M.free ((f + j) * 2)
        have f1 := M.free ((f + j) * 2 + 1)
        have c5 := M.c5
        simp only at c5
        rw [hwl] at c5
        have hsum : (f : Int) + (j : Int) = ((f + j : Nat) : Int) := by omega
        have hlt2 : f + j < m.l.length := by omega
        have hle2 : m.l.length ≤ 81920 := hlen
        have hwp := Med.wipe_succ m.l f j
        generalize hX : f + j = x at *
        have Hwp := Lib.hid hwp
        clear hX hwp
        have HM := Lib.hid M
        have HF := Lib.hid F
        clear M F hwl ht
        go_wp2_with fail
        go_roundw
        case rel =>
          refine ⟨j + 1, by omega, by go_num, ?_, HF.out.set2 rfl⟩
          rw [Hwp.out]
          exact HM.out.put (a := x) (s := Sec.blank) (A := none) (c := 0) (.inl rfl) (by simp [Sec.blank])
        case measure => simp [intOf]; omega
      · have hjn' : j = n := by omega
        subst hjn'
        have HM := Lib.hid M
        clear M hwl
        go_wp2_with fail
        go_ret
        exact ⟨rfl, by rw [Int.toNat_natCast, Int.toNat_natCast]; exact HM.out, F⟩
  · have e1 : m.eraseE k = 2 := by unfold Med.eraseE; rw [if_neg hk]
    have e2 : m.erase k = m := by unfold Med.erase; rw [if_neg (by rw [e1]; decide)]
    have e3 : m.g.adr k 0 0 = (0, 2) := Geo.adr_out ho (fun hh => hk hh.1)
    rw [e1, e2]
    have E3 := Lib.hid e3
    clear e1 e2 e3
    go_enter Tryz.func88, Tryz.ntmps88
    go_wp2_with (first | (go_at_call 100; refine (address_any _ _ _ _ _ _ _ _ _).mono ?_; rintro e w1 ⟨rfl, hb1⟩; rw [E3.out]; obtain ⟨hc1, hf1, hz1⟩ := bcell hb1))
    go_ret
    exact ⟨rfl, h.below hb1, Fr.ofBelow hb1 _⟩
theorem erase_nil (k : Int) (w : World) : Calls Tryz.prog 88 #[.pointer none, .int .i64 k] w fun e w' => e = .returned (.int .i64 8) ∧ w = w' := by
  go_enter Tryz.func88, Tryz.ntmps88
  go_wp2
  go_ret
  exact ⟨rfl, rfl⟩
end Go.Proofs.YtmloiifnadaaoaaGreat
