/- Media of the reference in memory. -/
import Derived.Test.YtmloiifnadaaoaaGreatMedW
import Derived.StillTailTactics
namespace Go.Proofs.YtmloiifnadaaoaaGreat
open Go.RowKit
set_option linter.unusedVariables false

def str (l : List UInt8) : ByteArray := ⟨l.toArray⟩

/-- The cells of the reference's sectors: their bytes are strings. -/
def RSecs (xs : List Value) (l : List Sec) : Prop :=
  ∀ i s, l[i]? = some s → xs[i * 2]? = some (.int .i64 s.st) ∧ xs[i * 2 + 1]? = some (.string (str s.bs))
theorem RSecs.put {xs : List Value} {l : List Sec} (h : RSecs xs l) (hlen : xs.length = l.length * 2) {a : Nat} {s : Sec} :
    RSecs ((xs.set (a * 2) (.int .i64 s.st)).set (a * 2 + 1) (.string (str s.bs))) (l.set a s) := by
  intro i t ht
  by_cases e : i = a
  · subst e
    have hlt : i < l.length := by
      have := (List.getElem?_eq_some_iff.1 ht).1
      simpa using this
    rw [List.getElem?_set_self hlt] at ht
    obtain rfl := Option.some.inj ht
    refine ⟨?_, ?_⟩
    · rw [List.getElem?_set_ne (by omega), List.getElem?_set_self (by omega)]
    · rw [List.getElem?_set_self (by rw [List.length_set]; omega)]
  · rw [List.getElem?_set_ne (fun h => e h.symm)] at ht
    obtain ⟨h1, h2⟩ := h i t ht
    refine ⟨?_, ?_⟩
    · rw [List.getElem?_set_ne (by omega), List.getElem?_set_ne (by omega)]; exact h1
    · rw [List.getElem?_set_ne (by omega), List.getElem?_set_ne (by omega)]; exact h2
theorem RSecs.one {xs : List Value} {l : List Sec} (h : RSecs xs l) (hx : xs.length = l.length * 2) : ∀ u ∈ xs, u.oneCell' = true := by
  intro u hu
  obtain ⟨j, hj, rfl⟩ := List.getElem_of_mem hu
  have hi : j / 2 < l.length := by omega
  obtain ⟨h1, h2⟩ := h (j / 2) _ (List.getElem?_eq_getElem hi)
  rcases Nat.mod_two_eq_zero_or_one j with h0 | h0
  · have e : j / 2 * 2 = j := by omega
    rw [e, List.getElem?_eq_getElem hj] at h1
    rw [Option.some.inj h1]; rfl
  · have e : j / 2 * 2 + 1 = j := by omega
    rw [e, List.getElem?_eq_getElem hj] at h2
    rw [Option.some.inj h2]; rfl

/-- A medium of the reference: its head in block p, its sectors in block q. -/
structure IsRef (w : World) (p q cap : Nat) (m : Med) : Prop where
  head : w.heap[p]? = some (.cells #[.int .i64 m.g.r, .int .i64 m.g.b, .int .i64 m.g.t, .int .i64 m.g.s, .int .i64 m.g.o, .slice (some ⟨q, 0, none⟩) m.l.length cap] 94 (0, 0))
  row : ∃ xs, w.ownsRow 0 123 2 (.slice (some ⟨q, 0, none⟩) m.l.length cap) m.l.length xs ∧ RSecs xs m.l
  good : m.Good

namespace IsRef
variable {w w' : World} {p q cap : Nat} {m : Med}
theorem hasP (h : IsRef w p q cap m) : HasT w p 94 := ⟨_, _, h.head⟩
theorem hasQ (h : IsRef w p q cap m) : HasT w q 123 := by
  obtain ⟨xs, ho, _⟩ := h.row
  rcases ho.2 with ⟨h1, _⟩ | ⟨g, c, cur, hv, _, hg, _⟩
  · cases h1
  · simp at hv
    obtain ⟨rfl, _⟩ := hv
    exact ⟨_, _, hg⟩
theorem ne (h : IsRef w p q cap m) : p ≠ q := h.hasP.ne h.hasQ (by decide)
theorem keep {S : Nat → Prop} (h : IsRef w p q cap m) (hf : Fr S w w') (hp : ¬ S p) (hq : ¬ S q) : IsRef w' p q cap m := by
  refine ⟨(hf.block p h.hasP.lt hp).trans h.head, ?_, h.good⟩
  obtain ⟨xs, ho, hs⟩ := h.row
  refine ⟨xs, ?_, hs⟩
  refine ⟨ho.1, ?_⟩
  rcases ho.2 with h2 | ⟨g, c, cur, hv, hb, hg, hr⟩
  · exact .inl h2
  · refine .inr ⟨g, c, cur, hv, hb, ?_, hr⟩
    have : g = q := by simp at hv; exact hv.1.symm
    subst this
    exact (hf.block g h.hasQ.lt hq).trans hg
theorem below (h : IsRef w p q cap m) (hb : Below w.heap.size w w') : IsRef w' p q cap m := h.keep (Fr.ofBelow hb (fun _ => False)) id id
theorem c0 (h : IsRef w p q cap m) : w.cell? ⟨p, 0, none⟩ = some (.int .i64 m.g.r) := by rw [cell_of_row w p _ _ _ _ h.head]; rfl
theorem c1 (h : IsRef w p q cap m) : w.cell? ⟨p, 1, none⟩ = some (.int .i64 m.g.b) := by rw [cell_of_row w p _ _ _ _ h.head]; rfl
theorem c2 (h : IsRef w p q cap m) : w.cell? ⟨p, 2, none⟩ = some (.int .i64 m.g.t) := by rw [cell_of_row w p _ _ _ _ h.head]; rfl
theorem c3 (h : IsRef w p q cap m) : w.cell? ⟨p, 3, none⟩ = some (.int .i64 m.g.s) := by rw [cell_of_row w p _ _ _ _ h.head]; rfl
theorem c4 (h : IsRef w p q cap m) : w.cell? ⟨p, 4, none⟩ = some (.int .i64 m.g.o) := by rw [cell_of_row w p _ _ _ _ h.head]; rfl
theorem c5 (h : IsRef w p q cap m) : w.cell? ⟨p, 5, none⟩ = some (.slice (some ⟨q, 0, none⟩) m.l.length cap) := by rw [cell_of_row w p _ _ _ _ h.head]; rfl
/-- The cells of a sector that is there. -/
theorem sec (h : IsRef w p q cap m) {a : Nat} (ha : a < m.l.length) : w.cell? ⟨q, a * 2, none⟩ = some (.int .i64 (m.sec a).st) ∧ w.cell? ⟨q, a * 2 + 1, none⟩ = some (.string (str (m.sec a).bs)) ∧ (m.sec a).bs.length ≤ 64 := by
  obtain ⟨xs, ho, hs⟩ := h.row
  have hg : m.l[a]? = some (m.sec a) := by
    unfold Med.sec
    rw [Int.toNat_natCast, List.getD_eq_getElem?_getD, List.getElem?_eq_getElem ha]
    rfl
  obtain ⟨h1, h2⟩ := hs a _ hg
  refine ⟨?_, ?_, ?_⟩
  · rw [ho.cellAt _ (by omega)]; exact h1
  · rw [ho.cellAt _ (by omega)]; exact h2
  · exact h.good.short _ (List.mem_of_getElem? hg)
theorem free (h : IsRef w p q cap m) (j : Nat) : w.frozen? ⟨q, j, none⟩ = false := by
  obtain ⟨xs, ho, _⟩ := h.row
  exact ho.frozenAt j
/-- A sector is stored. -/
theorem put (h : IsRef w p q cap m) {a : Nat} {s : Sec} (hs64 : s.bs.length ≤ 64) :
    IsRef ((w.setCell ⟨q, a * 2, none⟩ (.int .i64 s.st)).setCell ⟨q, a * 2 + 1, none⟩ (.string (str s.bs))) p q cap { m with l := m.l.set a s } := by
  have hne := h.ne
  have hf : Fr (· = q) w ((w.setCell ⟨q, a * 2, none⟩ (.int .i64 s.st)).setCell ⟨q, a * 2 + 1, none⟩ (.string (str s.bs))) := (Fr.refl (· = q) w).set2 rfl
  obtain ⟨xs, ho, hs⟩ := h.row
  refine ⟨?_, ⟨(xs.set (a * 2) (.int .i64 s.st)).set (a * 2 + 1) (.string (str s.bs)), ?_, ?_⟩, ?_⟩
  · simp only [List.length_set]
    exact (hf.block p h.hasP.lt hne).trans h.head
  · simp only [List.length_set]
    exact ((ho.stored _ _).1.stored _ _).1
  · exact hs.put ho.1
  · exact ⟨h.good.ok, by simp only [List.length_set]; exact h.good.len, Med.mem_set_short h.good.short hs64⟩
end IsRef

/-- string(b) gives the bytes. -/
theorem toStr_of {w : World} {A : Option Addr} {l : List UInt8} (h : BytesRd w A l) (c : Nat) : (convert 53 9 (.slice A l.length c)).run Tryz.prog w = .ok (.string (str l)) w := by
  rcases h with rfl | ⟨g, off, rfl, hc⟩
  · cases A with
    | none => exact run_convert_bytes_nil w _ _ Tryz.underlying53 Tryz.underlying5 _ _ _ Tryz.underlying9
    | some a => exact run_convert_bytes_back w _ _ _ a c [] Tryz.underlying53 Tryz.underlying5 Tryz.underlying9 (fun j hj => by simp at hj)
  · exact run_convert_bytes_back w _ _ _ _ c l Tryz.underlying53 Tryz.underlying5 Tryz.underlying9 (fun j hj => by rw [Addr.add_lit]; exact hc j _ (List.getElem?_eq_getElem hj))

/-- []byte(s): new memory that reads as the string's bytes. -/
theorem ofStr_run (s : ByteArray) (w : World) : (convert 9 53 (.string s)).run Tryz.prog w = .ok (.slice (some ⟨w.heap.size, 0, none⟩) s.size (grownCap w s.size 0 5))
      (w.drew.alloc (.cells (bytesRow s (grownCap w s.size 0 5)) 5 ((bytesRow s (grownCap w s.size 0 5)).size, (bytesRow s (grownCap w s.size 0 5)).size + 1))) :=
  run_bytes_of_string w _ _ _ s Tryz.underlying9 Tryz.underlying53 Tryz.underlying5
theorem bytesT_new (w : World) (l : List UInt8) (cap : Nat) (fr : Nat × Nat) : BytesT (w.alloc (.cells (bytesRow (str l) cap) 5 fr)) (some ⟨w.heap.size, 0, none⟩) l := by
  refine .inr ⟨w.heap.size, 0, rfl, ⟨_, _, heap_alloc_new w _⟩, fun i x hx => ?_⟩
  rw [Nat.zero_add, World.cell?_alloc_mark]
  have hi := (List.getElem?_eq_some_iff.1 hx)
  obtain ⟨hi, hx⟩ := hi
  rw [bytesRow_at _ _ _ (by simpa [str] using hi)]
  simp [str, hx]
theorem str_size (l : List UInt8) : (str l).size = l.length := by simp [str, ByteArray.size]
end Go.Proofs.YtmloiifnadaaoaaGreat
/- The walks of the reference of package media: has, State, Read, New, Clone. -/
namespace Go.Proofs.YtmloiifnadaaoaaGreat
open Go.RowKit
set_option linter.unusedVariables false
set_option linter.unusedSimpArgs false

set_option maxHeartbeats 1000000 in
theorem rhas_any (p q cap : Nat) (m : Med) (a : Int) (w : World) (h : IsRef w p q cap m) :
    Calls Tryz.prog 76 #[.pointer (some ⟨p, 0, none⟩), .int .i64 a] w fun e w' => e = .returned (.bool (m.has a)) ∧ w = w' := by
  have c5 := h.c5
  cases hh : m.has a with
  | false =>
    have h0 := Med.has_no.1 hh
    go_enter Tryz.func76, Tryz.ntmps76
    go_wp2
    all_goals go_ret
    all_goals exact ⟨ret_bool (by simp; try omega), rfl⟩
  | true =>
    obtain ⟨h0, h1⟩ := Med.has_iff.1 hh
    go_enter Tryz.func76, Tryz.ntmps76
    go_wp2
    go_ret
    exact ⟨ret_bool rfl, rfl⟩

set_option maxHeartbeats 1000000 in
theorem rstate_any (p q cap : Nat) (m : Med) (a : Int) (w : World) (h : IsRef w p q cap m) :
    Calls Tryz.prog 46 #[.pointer (some ⟨p, 0, none⟩), .int .i64 a] w fun e w' => e = .returned (.int .i64 (m.state a)) ∧ w = w' := by
  have c5 := h.c5
  cases hh : m.has a with
  | false =>
    rw [Med.state_no hh]
    go_enter Tryz.func46, Tryz.ntmps46
    go_wp2_with ((go_at_call 76; refine (rhas_any p q cap m a _ h).mono ?_; rintro e w' ⟨rfl, rfl⟩))
    go_ret
    exact ⟨rfl, rfl⟩
  | true =>
    rw [Med.state_yes hh]
    obtain ⟨h0, h1⟩ := Med.has_iff.1 hh
    obtain ⟨k, rfl⟩ := Int.eq_ofNat_of_zero_le h0
    have hk : k < m.l.length := by omega
    obtain ⟨s0, s1, _⟩ := h.sec hk
    go_enter Tryz.func46, Tryz.ntmps46
    go_wp2_with ((go_at_call 76; refine (rhas_any p q cap m _ _ h).mono ?_; rintro e w' ⟨rfl, rfl⟩))
    go_ret
    exact ⟨rfl, rfl⟩

set_option maxHeartbeats 1000000 in
theorem rread_any (p q cap : Nat) (m : Med) (a : Int) (w : World) (h : IsRef w p q cap m) :
    Calls Tryz.prog 91 #[.pointer (some ⟨p, 0, none⟩), .int .i64 a] w (ReadIs m a w) := by
  have c5 := h.c5
  cases hh : m.has a with
  | false =>
    obtain ⟨e1, e2⟩ := Med.read_no hh
    have H1 := Lib.hid e1
    have H2 := Lib.hid e2
    clear e1 e2
    go_enter Tryz.func91, Tryz.ntmps91
    go_wp2_with ((go_at_call 76; refine (rhas_any p q cap m a _ h).mono ?_; rintro e w' ⟨rfl, rfl⟩))
    go_ret2
    exact ⟨none, 0, by rw [H1.out, H2.out]; rfl, .inl H2.out, (by repeat (first | (with_reducible exact Below.refl _ _) | (with_reducible refine Below.drew ?_) | (with_reducible refine below_drw ?_ _) | (with_reducible refine below_alloc ?_ _) | (with_reducible refine below_set ?_ (by simp <;> omega) _) | (refine below_of (by assumption) ?_)))⟩
  | true =>
    obtain ⟨h0, h1⟩ := Med.has_iff.1 hh
    obtain ⟨k, rfl⟩ := Int.eq_ofNat_of_zero_le h0
    have hk : k < m.l.length := by omega
    obtain ⟨s0, s1, h64⟩ := h.sec hk
    by_cases hst : (m.sec k).st = 1
    · obtain ⟨e1, e2⟩ := Med.read_ok hh hst
      have H1 := Lib.hid e1
      have H2 := Lib.hid e2
      have hst1 : ((m.sec k).st != 1) = false := by simp [hst]
      have hconv := ofStr_run (str (m.sec k).bs)
      clear e1 e2 hst
      go_enter Tryz.func91, Tryz.ntmps91
      go_wp2_with ((go_at_call 76; refine (rhas_any p q cap m _ _ h).mono ?_; rintro e w' ⟨rfl, rfl⟩))
      go_ret2
      refine ⟨some ⟨w.heap.size, 0, none⟩, grownCap w (str (m.sec k).bs).size 0 5, by rw [H1.out, H2.out, ← str_size]; rfl, by rw [H2.out]; exact bytesT_new _ _ _ _, (by repeat (first | (with_reducible exact Below.refl _ _) | (with_reducible refine Below.drew ?_) | (with_reducible refine below_drw ?_ _) | (with_reducible refine below_alloc ?_ _) | (with_reducible refine below_set ?_ (by simp <;> omega) _) | (refine below_of (by assumption) ?_)))⟩
    · obtain ⟨e1, e2⟩ := Med.read_bad hh hst
      have H1 := Lib.hid e1
      have H2 := Lib.hid e2
      have hst1 : ((m.sec k).st != 1) = true := by simp [hst]
      clear e1 e2 hst
      go_enter Tryz.func91, Tryz.ntmps91
      go_wp2_with ((go_at_call 76; refine (rhas_any p q cap m _ _ h).mono ?_; rintro e w' ⟨rfl, rfl⟩))
      go_ret2
      exact ⟨none, 0, by rw [H1.out, H2.out]; rfl, .inl H2.out, (by repeat (first | (with_reducible exact Below.refl _ _) | (with_reducible refine Below.drew ?_) | (with_reducible refine below_drw ?_ _) | (with_reducible refine below_alloc ?_ _) | (with_reducible refine below_set ?_ (by simp <;> omega) _) | (refine below_of (by assumption) ?_)))⟩

theorem Tryz.info_rsectors : (Tryz.prog.info? 123).map (fun i => (i.zero, i.size, i.bytes)) = some (some (.agg #[.int .i64 0, .string ByteArray.empty]), 2, 24) := by kernel_rfl

theorem rnew_ok {r b t s o : Int} (W : World) (ho : (Geo.mk r b t s o).Ok) (n : Nat) (hn : (Geo.mk r b t s o).size = (n : Int)) :
    IsRef ((W.alloc (.cells (madeCells #[.int .i64 0, .string ByteArray.empty] (n * 2)) 123)).alloc (.cells #[.int .i64 r, .int .i64 b, .int .i64 t, .int .i64 s, .int .i64 o, .slice (some ⟨W.heap.size, 0, none⟩) n n] 94))
      (W.heap.size + 1) W.heap.size n (Med.new (Geo.mk r b t s o)) := by
  have hN : (Med.new (Geo.mk r b t s o)).l.length = n := by simp [Med.new, hn]
  have hle := (Geo.size_bd (Geo.mk r b t s o)).2
  rw [hn] at hle
  refine ⟨?_, ⟨(madeCells #[.int .i64 0, .string ByteArray.empty] (n * 2)).toList, ?_, ?_⟩, Med.good_new ho⟩
  · rw [hN]
    have := heap_alloc_new (W.alloc (.cells (madeCells #[.int .i64 0, .string ByteArray.empty] (n * 2)) 123)) (.cells #[.int .i64 r, .int .i64 b, .int .i64 t, .int .i64 s, .int .i64 o, .slice (some ⟨W.heap.size, 0, none⟩) n n] 94)
    simpa [Med.new] using this
  · rw [hN]
    exact (World.ownsRow_lit W _ n (Nat.zero_le _) (by unfold maxLen; omega) (by simp [size_madeCells])).alloc _
  · intro i x hx
    have hx' : x = Sec.blank ∧ i < n := by
      simp only [Med.new, hn, Int.toNat_natCast] at hx
      have h1 := List.mem_of_getElem? hx
      have h2 := (List.getElem?_eq_some_iff.1 hx).1
      exact ⟨(List.mem_replicate.1 h1).2, by simpa using h2⟩
    obtain ⟨rfl, hi⟩ := hx'
    refine ⟨?_, ?_⟩
    · rw [made_get _ _ _ (by omega)]
      simp [Sec.blank]
    · rw [made_get _ _ _ (by omega)]
      simp [Sec.blank, Nat.add_mod, str, ByteArray.empty, ByteArray.emptyWithCapacity]
      rfl

/-- What the reference's New returns. -/
def RNewIs (r b t s o : Int) (w : World) (e : Ending) (w' : World) : Prop :=
  Below w.heap.size w w' ∧ (((Geo.mk r b t s o).ok = false ∧ e = .returned (.tuple #[.pointer none, .int .i64 1])) ∨
      ((Geo.mk r b t s o).ok = true ∧ ∃ p q n, e = .returned (.tuple #[.pointer (some ⟨p, 0, none⟩), .int .i64 0]) ∧ w.heap.size ≤ p ∧ w.heap.size ≤ q ∧ IsRef w' p q n (Med.new (Geo.mk r b t s o))))

set_option maxHeartbeats 2000000 in
theorem rnew_any (r b t s o : Int) (w : World) : Calls Tryz.prog 59 #[.agg #[.int .i64 r, .int .i64 b, .int .i64 t, .int .i64 s, .int .i64 o]] w (RNewIs r b t s o w) := by
  cases hv : (Geo.mk r b t s o).ok with
  | false =>
    go_enter Tryz.func59, Tryz.ntmps59
    go_wp2_with (go_at_call 22; refine (rvalid_any _ _ _ _ _ _).mono ?_; rintro e w' ⟨rfl, hb⟩; (first | ((first | have hB1 := below_of hb hB | have hB1 := below_of hb (Below.drew hB) | have hB1 := below_of hb (below_drw hB _)); clear hB hb hc hf hz; have hB := hB1; clear hB1; obtain ⟨hc, hf, hz⟩ := bcell hB) | ((first | have hB1 := below_of hb (below_alloc hB _) | have hB1 := below_of hb (below_alloc (below_alloc hB _) _) | have hB1 := below_of hb (below_alloc (below_alloc (below_alloc hB _) _) _) | have hB1 := below_of hb (below_alloc (below_alloc (below_alloc (below_alloc hB _) _) _) _) | have hB1 := below_of hb (below_alloc (below_alloc (below_alloc (below_alloc (below_alloc hB _) _) _) _) _) | have hB1 := below_of hb (Below.drew (below_alloc hB _)) | have hB1 := below_of hb (Below.drew (below_alloc (below_alloc hB _) _)) | have hB1 := below_of hb (Below.drew (below_alloc (below_alloc (below_alloc hB _) _) _)) | have hB1 := below_of hb (Below.drew (below_alloc (below_alloc (below_alloc (below_alloc hB _) _) _) _)) | have hB1 := below_of hb (Below.drew (below_alloc (below_alloc (below_alloc (below_alloc (below_alloc hB _) _) _) _) _)) | have hB1 := below_of hb (below_drw (below_alloc hB _) _) | have hB1 := below_of hb (below_drw (below_alloc (below_alloc hB _) _) _) | have hB1 := below_of hb (below_drw (below_alloc (below_alloc (below_alloc hB _) _) _) _) | have hB1 := below_of hb (below_drw (below_alloc (below_alloc (below_alloc (below_alloc hB _) _) _) _) _) | have hB1 := below_of hb (below_drw (below_alloc (below_alloc (below_alloc (below_alloc (below_alloc hB _) _) _) _) _) _)); clear hB hc hf hz; have hB := hB1; clear hB1; obtain ⟨hc, hf, hz⟩ := bcell hB; obtain ⟨hc_, hf_, hz_⟩ := bcell hb; clear hb) | (have hB := hb; clear hb; obtain ⟨hc, hf, hz⟩ := bcell hB)))
    go_ret2
    exact ⟨(by repeat (first | (with_reducible exact Below.refl _ _) | (with_reducible refine Below.drew ?_) | (with_reducible refine below_drw ?_ _) | (with_reducible refine below_alloc ?_ _) | (with_reducible refine below_set ?_ (by simp <;> omega) _) | (refine below_of (by assumption) ?_))), .inl ⟨hv, rfl⟩⟩
  | true =>
    have ho := Geo.ok_iff.1 hv
    obtain ⟨n, hn⟩ := Int.eq_ofNat_of_zero_le (Geo.size_bd (Geo.mk r b t s o)).1
    have hle := (Geo.size_bd (Geo.mk r b t s o)).2
    rw [hn] at hle
    have Hn := Lib.hid hn
    have Ho := Lib.hid ho
    clear hn ho
    obtain ⟨i0, hinf, hz0, hz1, hz2⟩ := info_parts Tryz.info_rsectors
    have hmk := fun W => run_make_rows (P := Tryz.prog) 92 123 i0 _ Tryz.underlying92 hinf hz0 n (by rw [hz2]; omega) (by omega) W
    rw [hz1] at hmk
    simp only [Value.cells] at hmk
    go_enter Tryz.func59, Tryz.ntmps59
    go_wp2_with (go_at_call 22; refine (rvalid_any _ _ _ _ _ _).mono ?_; rintro e w' ⟨rfl, hb⟩; (first | ((first | have hB1 := below_of hb hB | have hB1 := below_of hb (Below.drew hB) | have hB1 := below_of hb (below_drw hB _)); clear hB hb hc hf hz; have hB := hB1; clear hB1; obtain ⟨hc, hf, hz⟩ := bcell hB) | ((first | have hB1 := below_of hb (below_alloc hB _) | have hB1 := below_of hb (below_alloc (below_alloc hB _) _) | have hB1 := below_of hb (below_alloc (below_alloc (below_alloc hB _) _) _) | have hB1 := below_of hb (below_alloc (below_alloc (below_alloc (below_alloc hB _) _) _) _) | have hB1 := below_of hb (below_alloc (below_alloc (below_alloc (below_alloc (below_alloc hB _) _) _) _) _) | have hB1 := below_of hb (Below.drew (below_alloc hB _)) | have hB1 := below_of hb (Below.drew (below_alloc (below_alloc hB _) _)) | have hB1 := below_of hb (Below.drew (below_alloc (below_alloc (below_alloc hB _) _) _)) | have hB1 := below_of hb (Below.drew (below_alloc (below_alloc (below_alloc (below_alloc hB _) _) _) _)) | have hB1 := below_of hb (Below.drew (below_alloc (below_alloc (below_alloc (below_alloc (below_alloc hB _) _) _) _) _)) | have hB1 := below_of hb (below_drw (below_alloc hB _) _) | have hB1 := below_of hb (below_drw (below_alloc (below_alloc hB _) _) _) | have hB1 := below_of hb (below_drw (below_alloc (below_alloc (below_alloc hB _) _) _) _) | have hB1 := below_of hb (below_drw (below_alloc (below_alloc (below_alloc (below_alloc hB _) _) _) _) _) | have hB1 := below_of hb (below_drw (below_alloc (below_alloc (below_alloc (below_alloc (below_alloc hB _) _) _) _) _) _)); clear hB hc hf hz; have hB := hB1; clear hB1; obtain ⟨hc, hf, hz⟩ := bcell hB; obtain ⟨hc_, hf_, hz_⟩ := bcell hb; clear hb) | (have hB := hb; clear hb; obtain ⟨hc, hf, hz⟩ := bcell hB)))
    go_region_held3 (fun W_ => (∀ b_ o_, b_ < (w').heap.size → W_.cell? ⟨b_, o_, none⟩ = (w').cell? ⟨b_, o_, none⟩) ∧ (∀ b_ o_, b_ < (w').heap.size → W_.frozen? ⟨b_, o_, none⟩ = (w').frozen? ⟨b_, o_, none⟩) ∧ (∀ k_, k_ < (w').heap.size → k_ < W_.heap.size) ∧ Below (w').heap.size (w') W_) (first | exact held_start _ | assumption | exact held_keep (by assumption) (by assumption) | exact held_keep (by assumption) ((Below.refl _ _).alloc (Nat.le_refl _) _) | exact held_of (by assumption)) (first | (go_at_call 23; refine (rsize_any _ _ _ _ _ _).mono ?_; rintro e w' ⟨rfl, hb⟩; rw [Hn.out]))
    all_goals go_wp2
    all_goals go_ret2
    all_goals (have hsz := hB.size; have hsz2 := hb.size; simp at hsz hsz2)
    all_goals exact ⟨(by repeat (first | (with_reducible exact Below.refl _ _) | (with_reducible refine Below.drew ?_) | (with_reducible refine below_drw ?_ _) | (with_reducible refine below_alloc ?_ _) | (with_reducible refine below_set ?_ (by simp <;> omega) _) | (refine below_of (by assumption) ?_))), .inr ⟨hv, _, _, n, rfl, by omega, by omega, rnew_ok _ Ho.out n Hn.out⟩⟩

/-- What the reference's Clone returns. -/
def RCloneIs (m : Med) (w : World) (e : Ending) (w' : World) : Prop :=
  Below w.heap.size w w' ∧ ∃ p q n, e = .returned (.pointer (some ⟨p, 0, none⟩)) ∧ w.heap.size ≤ p ∧ w.heap.size ≤ q ∧ IsRef w' p q n m

set_option maxHeartbeats 2000000 in
set_option maxRecDepth 1000000 in
theorem rclone_any (p q cap : Nat) (m : Med) (w : World) (h : IsRef w p q cap m) :
    Calls Tryz.prog 73 #[.pointer (some ⟨p, 0, none⟩)] w (RCloneIs m w) := by
  have c0 := h.c0
  have c1 := h.c1
  have c2 := h.c2
  have c3 := h.c3
  have c4 := h.c4
  have c5 := h.c5
  have hp := h.hasP.lt
  obtain ⟨xs, ho, hs⟩ := h.row
  have hle := h.good.len_le
  have Hx := Lib.hid ho.1
  have H1 := Lib.hid (hs.one ho.1)
  have Ho := Lib.hid ho
  have Hs := Lib.hid hs
  obtain ⟨i0, hinf, hz0, hz1, hz2⟩ := info_parts Tryz.info_rsectors
  clear ho hs
  go_enter Tryz.func73, Tryz.ntmps73
  go_wp2_with fail
  go_region_held3 (fun W_ => (∀ b_ o_, b_ < (w).heap.size → W_.cell? ⟨b_, o_, none⟩ = (w).cell? ⟨b_, o_, none⟩) ∧ (∀ b_ o_, b_ < (w).heap.size → W_.frozen? ⟨b_, o_, none⟩ = (w).frozen? ⟨b_, o_, none⟩) ∧ (∀ k_, k_ < (w).heap.size → k_ < W_.heap.size) ∧ Below (w).heap.size (w) W_) (first | exact held_start _ | assumption | exact held_keep (by assumption) (by assumption) | exact held_keep (by assumption) ((Below.refl _ _).alloc (Nat.le_refl _) _) | exact held_of (by assumption)) (first | (refine step_append_own rfl (.tmp 7) (.tmp 11) 92 rfl w.heap.size 123 i0 _ 2 24 Tryz.underlying92 hinf hz0 hz1 hz2 rfl (by decide) _ 0 [] rfl (World.ownsRow_made (base := w.heap.size) _ #[] 0 (by simp) (by decide) rfl) ⟨q, 0, none⟩ m.l.length cap xs rfl Hx.out ?_ H1.out ?_ ?_ ?_ ?_; (exact fun j u hj => cell_later (by repeat (first | (with_reducible exact Below.refl _ _) | (with_reducible refine Below.drew ?_) | (with_reducible refine below_drw ?_ _) | (with_reducible refine below_alloc ?_ _) | (with_reducible refine below_set ?_ (by simp <;> omega) _) | (refine below_of (by assumption) ?_))) (Ho.out.cells (g := q) rfl j u hj)); (unfold maxLen; omega); (omega); (simp); intro v' w' hown hgrow hnil; have hbw : Below w.heap.size w w' := Below.grown (by repeat (first | (with_reducible exact Below.refl _ _) | (with_reducible refine Below.drew ?_) | (with_reducible refine below_drw ?_ _) | (with_reducible refine below_alloc ?_ _) | (with_reducible refine below_set ?_ (by simp <;> omega) _) | (refine below_of (by assumption) ?_))) hgrow (by simp) (fun k hk => by injection hk with hk; subst hk; exact Nat.le_refl _); have hown2 : w'.ownsRow w.heap.size 123 2 v' m.l.length xs := (by rw [Nat.zero_add, List.nil_append] at hown; exact hown); clear hown hgrow; obtain ⟨g, c', rfl, hg, hg2⟩ := owns_form hown2 (fun h => by have h1 := (hnil.1 h).1; cases h1); have Hown := Lib.hid hown2; clear hown2 hnil))
  all_goals go_wp2
  all_goals go_ret
  all_goals (have hsz := hbw.size)
  all_goals exact ⟨below_alloc hbw _, _, g, c', rfl, hsz, hg, ⟨heap_alloc_new _ _, ⟨xs, owns_mono (Nat.zero_le _) (Hown.out.alloc _), Hs.out⟩, h.good⟩⟩
end Go.Proofs.YtmloiifnadaaoaaGreat
/- The walks of the reference of package media: Write, Erase, Do. -/
namespace Go.Proofs.YtmloiifnadaaoaaGreat
open Go.RowKit
set_option linter.unusedVariables false
set_option linter.unusedSimpArgs false

/-- What a write or an erasure of the reference leaves. -/
def ROpIs (c : Int) (p q cap : Nat) (m : Med) (w : World) (e : Ending) (w' : World) : Prop :=
  e = .returned (.int .i64 c) ∧ IsRef w' p q cap m ∧ Fr (· = q) w w'

set_option maxHeartbeats 2000000 in
set_option maxRecDepth 1000000 in
theorem rwrite_any (p q cap : Nat) (m : Med) (a : Int) (A : Option Addr) (l : List UInt8) (c : Nat) (w : World) (h : IsRef w p q cap m) (hl : BytesRd w A l) (hlen : l.length ≤ 140737488351232) :
    Calls Tryz.prog 94 #[.pointer (some ⟨p, 0, none⟩), .int .i64 a, .slice A l.length c] w (ROpIs (m.writeE a l) p q cap (m.write a l) w) := by
  cases hh : m.has a with
  | false =>
    have e1 : m.writeE a l = 2 := by unfold Med.writeE; rw [if_pos hh]
    have e2 : m.write a l = m := by unfold Med.write; rw [if_neg (by rw [e1]; decide)]
    rw [e1, e2]
    clear e1 e2
    go_enter Tryz.func94, Tryz.ntmps94
    go_wp2_with ((go_at_call 76; refine (rhas_any p q cap m a _ h).mono ?_; rintro e w' ⟨rfl, rfl⟩))
    go_ret
    exact ⟨rfl, h, Fr.refl _ _⟩
  | true =>
    by_cases h64 : 64 < l.length
    · have e1 : m.writeE a l = 7 := by unfold Med.writeE; rw [if_neg (by rw [hh]; decide), if_pos h64]
      have e2 : m.write a l = m := by unfold Med.write; rw [if_neg (by rw [e1]; decide)]
      rw [e1, e2]
      clear e1 e2
      go_enter Tryz.func94, Tryz.ntmps94
      go_wp2_with ((go_at_call 76; refine (rhas_any p q cap m a _ h).mono ?_; rintro e w' ⟨rfl, rfl⟩))
      go_ret
      exact ⟨rfl, h, Fr.refl _ _⟩
    · have e1 : m.writeE a l = 0 := Med.writeE_zero.2 ⟨hh, by omega⟩
      have e2 : m.write a l = { m with l := Med.kill (m.l.set a.toNat ⟨1, l⟩) (m.g.shadow a) } := by unfold Med.write; rw [if_pos e1]
      rw [e1, e2]
      have E2 := Lib.hid e2
      clear e1 e2
      have c5 := h.c5
      obtain ⟨h0, h1⟩ := Med.has_iff.1 hh
      obtain ⟨k, rfl⟩ := Int.eq_ofNat_of_zero_le h0
      have hk : k < m.l.length := by omega
      obtain ⟨s0, s1, _⟩ := h.sec hk
      have f0 := h.free (k * 2)
      have f1 := h.free (k * 2 + 1)
      have hpl := h.hasP.lt
      have hne := h.ne
      have hql := h.hasQ.lt
      have hconv := toStr_of hl c
      have hconv' : (convert 53 9 (.slice A l.length c)).run Tryz.prog w.drew = .ok (.string (str l)) w.drew := toStr_of (w := w.drew) hl c
      go_enter Tryz.func94, Tryz.ntmps94
      go_wp2_with ((go_at_call 76; refine (rhas_any p q cap m _ _ h).mono ?_; rintro e w' ⟨rfl, rfl⟩))
      go_region
      have M2 := h.put (a := k) (s := ⟨1, l⟩) (by simp only; omega)
      have F2 : Fr (· = q) w ((w.setCell ⟨q, k * 2, none⟩ (.int .i64 1)).setCell ⟨q, k * 2 + 1, none⟩ (.string (str l))) := (Fr.refl (· = q) w).set2 rfl
      simp only at M2
      clear s0 s1 f0 f1 c5 hconv hconv'
      revert M2 F2
      generalize (w.setCell ⟨q, k * 2, none⟩ (.int .i64 1)).setCell ⟨q, k * 2 + 1, none⟩ (.string (str l)) = W2
      intro M2 F2
      have hN := Geo.nsh_le m.g k
      have hlenS := Lib.hid (Geo.shadow_len m.g k)
      have hin := Lib.hid (fun x hx => Med.shadow_has h.good (a := (k : Int)) (s := x) hx)
      have c0 := M2.c0
      have c1 := M2.c1
      have c2 := M2.c2
      have c3 := M2.c3
      have c4 := M2.c4
      simp only at c0 c1 c2 c3 c4
      have hq2 : q < W2.heap.size := Nat.lt_of_lt_of_le hql F2.size
      generalize hS : m.g.shadow k = S at *
      have HS := Lib.hid hS
      clear hS
      go_wp2_with (go_at_call 101; refine (rshadow_any _ _ _ _ _ _ _).mono ?_; rintro e w3 ⟨v, rfl, hv, hb3⟩; rw [show (Geo.mk m.g.r m.g.b m.g.t m.g.s m.g.o).shadow (k : Int) = S from HS.out] at hv; obtain ⟨A3, cc3, hveq, hrd⟩ := intsRd_of hv; have hgq : ∀ g off, A3 = some ⟨g, off, none⟩ → S.length ≠ 0 → g ≠ q := (by intro g off hA hne0; have := hv.lt g (by rw [hveq, hA]; rfl); simp at this; omega); subst hveq; have Hv := Lib.hid hrd; have Hgq := Lib.hid hgq; have hb3' := below_undrew hb3; clear hv hrd hgq hb3)
      have M3 := M2.below hb3'
      have F3 := F2.call hb3'
      have HM3 := Lib.hid M3
      clear c0 c1 c2 c3 c4 M2 M3 F2
      have hmx : S.length ≤ 3 := by rw [hlenS.out]; exact hN
      go_loopw [8] (fun i wr => ∃ j : Nat, j ≤ S.length ∧ i = .int .i64 j ∧ IsRef wr p q cap { m with l := Med.kill (m.l.set k ⟨1, l⟩) (S.take j) } ∧ Fr (· = q) w wr ∧ Fr (· = q) w3 wr) (fun i _ => S.length - (intOf i).toNat)
      case atStart => exact ⟨0, Nat.zero_le _, rfl, HM3.out, F3, Fr.refl _ _⟩
      case round =>
        obtain ⟨j, hj, rfl, M, F, G⟩ := hrel
        by_cases hjn : j < S.length
        · have hx : S[j]? = some S[j] := List.getElem?_eq_getElem hjn
          have hmem : S[j] ∈ S := List.getElem_mem hjn
          have htk : S.take (j + 1) = S.take j ++ [S[j]] := List.take_succ_eq_append_getElem hjn
          generalize S[j] = x at *
          have hhx := hin.out x hmem
          obtain ⟨x0, x1⟩ := Med.has_iff.1 hhx
          obtain ⟨t, rfl⟩ := Int.eq_ofNat_of_zero_le x0
          have hcl : ∃ g off, A3 = some ⟨g, off, none⟩ ∧ wr.cell? ⟨g, off + j, none⟩ = some (.int .i64 (t : Int)) := by
            rcases Hv.out.2 with h1 | ⟨g, off, h1, h2⟩
            · rw [h1] at hjn; simp at hjn
            · exact ⟨g, off, h1, G.cell (h2 j _ hx) (Hgq.out g off h1 (by omega))⟩
          obtain ⟨g, off, rfl, hcl⟩ := hcl
          have Htk := Lib.hid htk
          clear htk hx hmem hhx
          have hkl : (Med.kill (m.l.set k ⟨1, l⟩) (S.take j)).length = m.l.length := by rw [Med.kill_len, List.length_set]
          have ht : t < (Med.kill (m.l.set k ⟨1, l⟩) (S.take j)).length := by omega
          obtain ⟨s0, s1, _⟩ := M.sec ht
          have f0 := M.free (t * 2)
          have f1 := M.free (t * 2 + 1)
          have c5 := M.c5
          simp only at c5
          have HM := Lib.hid M
          have HF := Lib.hid F
          have HG := Lib.hid G
          rw [hkl] at c5
          clear M F G hkl ht
          go_wp2_with fail
          go_region
          go_wp2
          go_roundw
          case rel =>
            refine ⟨j + 1, by omega, by go_num, ?_, (HF.out.set2 rfl).drew, (HG.out.set2 rfl).drew⟩
            rw [Htk.out, Med.kill_snoc, Int.toNat_natCast]
            exact (HM.out.put (a := t) (s := Sec.dead) (by simp [Sec.dead])).below (Below.refl _ _).drew
          case measure => simp [intOf]; omega
        · have htk : S.take j = S := List.take_of_length_le (by omega)
          rw [htk] at M
          have HM := Lib.hid M
          clear M htk G
          go_wp2_with fail
          go_ret
          refine ⟨rfl, ?_, F⟩
          rw [Int.toNat_natCast]
          exact HM.out

set_option maxHeartbeats 4000000 in
set_option maxRecDepth 1000000 in
theorem rerase_any (p q cap : Nat) (m : Med) (k : Int) (w : World) (h : IsRef w p q cap m) :
    Calls Tryz.prog 93 #[.pointer (some ⟨p, 0, none⟩), .int .i64 k] w (ROpIs (m.eraseE k) p q cap (m.erase k) w) := by
  have c0 := h.c0
  have c1 := h.c1
  have c2 := h.c2
  have c3 := h.c3
  have c4 := h.c4
  have c5 := h.c5
  have ho := h.good.ok
  have t0 := ho.t0
  have s0 := ho.s0
  by_cases hk : 0 ≤ k ∧ k < m.g.b
  · have e1 : m.eraseE k = 0 := by unfold Med.eraseE; rw [if_pos hk]
    have e2 : m.erase k = { m with l := Med.wipe m.l (m.g.r + k * (m.g.t * m.g.s)).toNat (m.g.t * m.g.s).toNat } := by unfold Med.erase; rw [if_pos e1]
    have e4 := Geo.bs_ok ho
    obtain ⟨b0, b1⟩ := Med.erase_has h.good hk
    have hts := ho.ts
    have r0 := ho.r0
    rw [e1, e2]
    have hlen := h.good.len_le
    obtain ⟨f, hf⟩ := Int.eq_ofNat_of_zero_le b0
    obtain ⟨n, hn⟩ := Int.eq_ofNat_of_zero_le (show 0 ≤ m.g.t * m.g.s by omega)
    have m0 : 0 ≤ k * (m.g.t * m.g.s) := Int.mul_nonneg hk.1 (by omega)
    rw [hf] at b1 ⊢
    rw [hn] at b1 hts e4 hf m0 ⊢
    obtain ⟨hk0, hk1⟩ := hk
    have X1 : IntKind.i64.wrap (k * (n : Int)) = k * (n : Int) := IntWalk.i64_in _ (by omega)
    have X2 : IntKind.i64.wrap (m.g.r + k * (n : Int)) = (f : Int) := by rw [hf]; exact IntWalk.i64_in _ (by omega)
    have E4 := Lib.hid e4
    have HM0 := Lib.hid h
    have hpl := h.hasP.lt
    clear e1 e2 e4 b0 hf hn ho
    go_enter Tryz.func93, Tryz.ntmps93
    go_wp2_with (first | (go_at_call 58; refine (rbandSize_any _ _ _ _ _ _).mono ?_; rintro e w2 ⟨rfl, hb2⟩; rw [show (Geo.mk m.g.r m.g.b m.g.t m.g.s m.g.o).bs = (n : Int) from E4.out]))
    have HM2 := Lib.hid (HM0.out.below hb2)
    clear c0 c1 c2 c3 c4 c5
    go_loopw [6] (fun i wr => ∃ j : Nat, j ≤ n ∧ i = .int .i64 j ∧ IsRef wr p q cap { m with l := Med.wipe m.l f j } ∧ Fr (· = q) w wr) (fun i _ => n - (intOf i).toNat)
    case atStart => exact ⟨0, Nat.zero_le _, rfl, HM2.out, Fr.ofBelow hb2 _⟩
    case round =>
      obtain ⟨j, hj, rfl, M, F⟩ := hrel
      have hwl : (Med.wipe m.l f j).length = m.l.length := Med.wipe_len _ _ _
      by_cases hjn : j < n
      · have ht : f + j < (Med.wipe m.l f j).length := by omega
        obtain ⟨s0, s1, _⟩ := M.sec ht
        have f0 := M.free ((f + j) * 2)
        have f1 := M.free ((f + j) * 2 + 1)
        have c0 := M.c0
        have c5 := M.c5
        simp only at c5 c0
        rw [hwl] at c5
        have X3 : IntKind.i64.wrap ((f : Int) + (j : Int)) = ((f + j : Nat) : Int) := by rw [IntWalk.i64_in _ (by omega)]; omega
        have hlt2 : f + j < m.l.length := by omega
        have hlt3 : ((f + j : Nat) : Int) < (m.l.length : Int) := by omega
        have hle2 : m.l.length ≤ 81920 := hlen
        have hwp := Med.wipe_succ m.l f j
        generalize hX : f + j = x at *
        have Hwp := Lib.hid hwp
        clear hX hwp
        have HM := Lib.hid M
        have HF := Lib.hid F
        clear M F hwl ht
        go_wp2_with fail
        go_region
        go_wp2
        go_roundw
        case rel =>
          refine ⟨j + 1, by omega, by go_num, ?_, (HF.out.set2 rfl).drew⟩
          rw [Hwp.out]
          exact (HM.out.put (a := x) (s := Sec.blank) (by simp [Sec.blank])).below (Below.refl _ _).drew
        case measure => simp [intOf]; omega
      · have hjn' : j = n := by omega
        subst hjn'
        have HM := Lib.hid M
        clear M hwl
        go_wp2_with fail
        go_ret
        exact ⟨rfl, by rw [Int.toNat_natCast, Int.toNat_natCast]; exact HM.out, F⟩
  · have e1 : m.eraseE k = 2 := by unfold Med.eraseE; rw [if_neg hk]
    have e2 : m.erase k = m := by unfold Med.erase; rw [if_neg (by rw [e1]; decide)]
    rw [e1, e2]
    have Hk := Lib.hid hk
    clear e1 e2 hk
    by_cases hk0 : k < 0
    · go_enter Tryz.func93, Tryz.ntmps93
      go_wp2
      go_ret
      exact ⟨rfl, h, Fr.refl _ _⟩
    · have hk1 : m.g.b ≤ k := by have := Hk.out; omega
      go_enter Tryz.func93, Tryz.ntmps93
      go_wp2
      go_ret
      exact ⟨rfl, h, Fr.refl _ _⟩
end Go.Proofs.YtmloiifnadaaoaaGreat
