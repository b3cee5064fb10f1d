/- Media of the reference in memory. -/
import Derived.Test.YtmloiifnadaaoaaMedW3
namespace Go.Proofs.Ytmloiifnadaaoaa
open Go.RowKit
set_option linter.unusedVariables false

def str (l : List UInt8) : ByteArray := ⟨l.toArray⟩

/-- The cells of the reference's sectors: their bytes are strings. -/
def RSecs (xs : List Value) (l : List Sec) : Prop :=
  ∀ i s, l[i]? = some s → xs[i * 2]? = some (.int .i64 s.st) ∧ xs[i * 2 + 1]? = some (.string (str s.bs))
theorem RSecs.put {xs : List Value} {l : List Sec} (h : RSecs xs l) (hlen : xs.length = l.length * 2) {a : Nat} {s : Sec} :
    RSecs ((xs.set (a * 2) (.int .i64 s.st)).set (a * 2 + 1) (.string (str s.bs))) (l.set a s) := by
  intro i t ht
  by_cases e : i = a
  · subst e
    have hlt : i < l.length := by
      have := (List.getElem?_eq_some_iff.1 ht).1
      simpa using this
    rw [List.getElem?_set_self hlt] at ht
    obtain rfl := Option.some.inj ht
    refine ⟨?_, ?_⟩
    · rw [List.getElem?_set_ne (by omega), List.getElem?_set_self (by omega)]
    · rw [List.getElem?_set_self (by rw [List.length_set]; omega)]
  · rw [List.getElem?_set_ne (fun h => e h.symm)] at ht
    obtain ⟨h1, h2⟩ := h i t ht
    refine ⟨?_, ?_⟩
    · rw [List.getElem?_set_ne (by omega), List.getElem?_set_ne (by omega)]; exact h1
    · rw [List.getElem?_set_ne (by omega), List.getElem?_set_ne (by omega)]; exact h2
theorem RSecs.one {xs : List Value} {l : List Sec} (h : RSecs xs l) (hx : xs.length = l.length * 2) : ∀ u ∈ xs, u.oneCell' = true := by
  intro u hu
  obtain ⟨j, hj, rfl⟩ := List.getElem_of_mem hu
  have hi : j / 2 < l.length := by omega
  obtain ⟨h1, h2⟩ := h (j / 2) _ (List.getElem?_eq_getElem hi)
  rcases Nat.mod_two_eq_zero_or_one j with h0 | h0
  · have e : j / 2 * 2 = j := by omega
    rw [e, List.getElem?_eq_getElem hj] at h1
    rw [Option.some.inj h1]; rfl
  · have e : j / 2 * 2 + 1 = j := by omega
    rw [e, List.getElem?_eq_getElem hj] at h2
    rw [Option.some.inj h2]; rfl

/-- A medium of the reference: its head in block p, its sectors in block q. -/
structure IsRef (w : World) (p q cap : Nat) (m : Med) : Prop where
  head : w.heap[p]? = some (.cells #[.int .i64 m.g.r, .int .i64 m.g.b, .int .i64 m.g.t, .int .i64 m.g.s, .int .i64 m.g.o, .slice (some ⟨q, 0, none⟩) m.l.length cap] 142 (0, 0))
  row : ∃ xs, w.ownsRow 0 167 2 (.slice (some ⟨q, 0, none⟩) m.l.length cap) m.l.length xs ∧ RSecs xs m.l
  good : m.Good

namespace IsRef
variable {w w' : World} {p q cap : Nat} {m : Med}
theorem hasP (h : IsRef w p q cap m) : HasT w p 142 := ⟨_, _, h.head⟩
theorem hasQ (h : IsRef w p q cap m) : HasT w q 167 := by
  obtain ⟨xs, ho, _⟩ := h.row
  rcases ho.2 with ⟨h1, _⟩ | ⟨g, c, cur, hv, _, hg, _⟩
  · cases h1
  · simp at hv
    obtain ⟨rfl, _⟩ := hv
    exact ⟨_, _, hg⟩
theorem ne (h : IsRef w p q cap m) : p ≠ q := h.hasP.ne h.hasQ (by decide)
theorem keep {S : Nat → Prop} (h : IsRef w p q cap m) (hf : Fr S w w') (hp : ¬ S p) (hq : ¬ S q) : IsRef w' p q cap m := by
  refine ⟨(hf.block p h.hasP.lt hp).trans h.head, ?_, h.good⟩
  obtain ⟨xs, ho, hs⟩ := h.row
  refine ⟨xs, ?_, hs⟩
  refine ⟨ho.1, ?_⟩
  rcases ho.2 with h2 | ⟨g, c, cur, hv, hb, hg, hr⟩
  · exact .inl h2
  · refine .inr ⟨g, c, cur, hv, hb, ?_, hr⟩
    have : g = q := by simp at hv; exact hv.1.symm
    subst this
    exact (hf.block g h.hasQ.lt hq).trans hg
theorem below (h : IsRef w p q cap m) (hb : Below w.heap.size w w') : IsRef w' p q cap m := h.keep (Fr.ofBelow hb (fun _ => False)) id id
theorem c0 (h : IsRef w p q cap m) : w.cell? ⟨p, 0, none⟩ = some (.int .i64 m.g.r) := by rw [cell_of_row w p _ _ _ _ h.head]; rfl
theorem c1 (h : IsRef w p q cap m) : w.cell? ⟨p, 1, none⟩ = some (.int .i64 m.g.b) := by rw [cell_of_row w p _ _ _ _ h.head]; rfl
theorem c2 (h : IsRef w p q cap m) : w.cell? ⟨p, 2, none⟩ = some (.int .i64 m.g.t) := by rw [cell_of_row w p _ _ _ _ h.head]; rfl
theorem c3 (h : IsRef w p q cap m) : w.cell? ⟨p, 3, none⟩ = some (.int .i64 m.g.s) := by rw [cell_of_row w p _ _ _ _ h.head]; rfl
theorem c4 (h : IsRef w p q cap m) : w.cell? ⟨p, 4, none⟩ = some (.int .i64 m.g.o) := by rw [cell_of_row w p _ _ _ _ h.head]; rfl
theorem c5 (h : IsRef w p q cap m) : w.cell? ⟨p, 5, none⟩ = some (.slice (some ⟨q, 0, none⟩) m.l.length cap) := by rw [cell_of_row w p _ _ _ _ h.head]; rfl
/-- The cells of a sector that is there. -/
theorem sec (h : IsRef w p q cap m) {a : Nat} (ha : a < m.l.length) : w.cell? ⟨q, a * 2, none⟩ = some (.int .i64 (m.sec a).st) ∧ w.cell? ⟨q, a * 2 + 1, none⟩ = some (.string (str (m.sec a).bs)) ∧ (m.sec a).bs.length ≤ 64 := by
  obtain ⟨xs, ho, hs⟩ := h.row
  have hg : m.l[a]? = some (m.sec a) := by
    unfold Med.sec
    rw [Int.toNat_natCast, List.getD_eq_getElem?_getD, List.getElem?_eq_getElem ha]
    rfl
  obtain ⟨h1, h2⟩ := hs a _ hg
  refine ⟨?_, ?_, ?_⟩
  · rw [ho.cellAt _ (by omega)]; exact h1
  · rw [ho.cellAt _ (by omega)]; exact h2
  · exact h.good.short _ (List.mem_of_getElem? hg)
theorem free (h : IsRef w p q cap m) (j : Nat) : w.frozen? ⟨q, j, none⟩ = false := by
  obtain ⟨xs, ho, _⟩ := h.row
  exact ho.frozenAt j
/-- A sector is stored. -/
theorem put (h : IsRef w p q cap m) {a : Nat} {s : Sec} (hs64 : s.bs.length ≤ 64) :
    IsRef ((w.setCell ⟨q, a * 2, none⟩ (.int .i64 s.st)).setCell ⟨q, a * 2 + 1, none⟩ (.string (str s.bs))) p q cap { m with l := m.l.set a s } := by
  have hne := h.ne
  have hf : Fr (· = q) w ((w.setCell ⟨q, a * 2, none⟩ (.int .i64 s.st)).setCell ⟨q, a * 2 + 1, none⟩ (.string (str s.bs))) := (Fr.refl (· = q) w).set2 rfl
  obtain ⟨xs, ho, hs⟩ := h.row
  refine ⟨?_, ⟨(xs.set (a * 2) (.int .i64 s.st)).set (a * 2 + 1) (.string (str s.bs)), ?_, ?_⟩, ?_⟩
  · simp only [List.length_set]
    exact (hf.block p h.hasP.lt hne).trans h.head
  · simp only [List.length_set]
    exact ((ho.stored _ _).1.stored _ _).1
  · exact hs.put ho.1
  · exact ⟨h.good.ok, by simp only [List.length_set]; exact h.good.len, Med.mem_set_short h.good.short hs64⟩
end IsRef

/-- string(b) gives the bytes. -/
theorem toStr_of {w : World} {A : Option Addr} {l : List UInt8} (h : BytesRd w A l) (c : Nat) : (convert 38 9 (.slice A l.length c)).run Try.prog w = .ok (.string (str l)) w := by
  rcases h with rfl | ⟨g, off, rfl, hc⟩
  · cases A with
    | none => exact run_convert_bytes_nil w _ _ Try.underlying38 Try.underlying5 _ _ _ Try.underlying9
    | some a => exact run_convert_bytes_back w _ _ _ a c [] Try.underlying38 Try.underlying5 Try.underlying9 (fun j hj => by simp at hj)
  · exact run_convert_bytes_back w _ _ _ _ c l Try.underlying38 Try.underlying5 Try.underlying9 (fun j hj => by rw [Addr.add_lit]; exact hc j _ (List.getElem?_eq_getElem hj))

/-- []byte(s): new memory that reads as the string's bytes. -/
theorem ofStr_run (s : ByteArray) (w : World) : (convert 9 38 (.string s)).run Try.prog w = .ok (.slice (some ⟨w.heap.size, 0, none⟩) s.size (grownCap w s.size 0 5))
      (w.drew.alloc (.cells (bytesRow s (grownCap w s.size 0 5)) 5 ((bytesRow s (grownCap w s.size 0 5)).size, (bytesRow s (grownCap w s.size 0 5)).size + 1))) :=
  run_bytes_of_string w _ _ _ s Try.underlying9 Try.underlying38 Try.underlying5
theorem bytesT_new (w : World) (l : List UInt8) (cap : Nat) (fr : Nat × Nat) : BytesT (w.alloc (.cells (bytesRow (str l) cap) 5 fr)) (some ⟨w.heap.size, 0, none⟩) l := by
  refine .inr ⟨w.heap.size, 0, rfl, ⟨_, _, heap_alloc_new w _⟩, fun i x hx => ?_⟩
  rw [Nat.zero_add, World.cell?_alloc_mark]
  have hi := (List.getElem?_eq_some_iff.1 hx)
  obtain ⟨hi, hx⟩ := hi
  rw [bytesRow_at _ _ _ (by simpa [str] using hi)]
  simp [str, hx]
theorem str_size (l : List UInt8) : (str l).size = l.length := by simp [str, ByteArray.size]
end Go.Proofs.Ytmloiifnadaaoaa
