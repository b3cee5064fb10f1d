/- Media in memory: what a medium of the program is, and what leaves it as it was. -/
import Derived.Test.YtmloiifnadaaoaaMed
import Derived.Deep.Draws
namespace Go.Proofs.Ytmloiifnadaaoaa
open Go.RowKit
set_option linter.unusedVariables false

/-- From w to w' only the blocks of S have turned (and blocks are new). -/
structure Fr (S : Nat → Prop) (w w' : World) : Prop where
  os : w'.os = w.os
  tape : w'.tape = w.tape
  output : w'.output = w.output
  size : w.heap.size ≤ w'.heap.size
  block : ∀ k, k < w.heap.size → ¬ S k → w'.heap[k]? = w.heap[k]?

namespace Fr
variable {S T : Nat → Prop} {w w' w'' : World}
theorem refl (S : Nat → Prop) (w : World) : Fr S w w := ⟨rfl, rfl, rfl, Nat.le_refl _, fun _ _ _ => rfl⟩
theorem trans (h : Fr S w w') (k : Fr S w' w'') : Fr S w w'' :=
  ⟨k.os.trans h.os, k.tape.trans h.tape, k.output.trans h.output, Nat.le_trans h.size k.size, fun i hi hn => (k.block i (Nat.lt_of_lt_of_le hi h.size) hn).trans (h.block i hi hn)⟩
theorem mono (h : Fr S w w') (hs : ∀ k, k < w.heap.size → S k → T k) : Fr T w w' := ⟨h.os, h.tape, h.output, h.size, fun k hk hn => h.block k hk (fun hh => hn (hs k hk hh))⟩
theorem ofBelow (h : Below w.heap.size w w') (S : Nat → Prop) : Fr S w w' := ⟨h.os, h.tape, h.output, h.size, fun k hk _ => h.block k hk⟩
theorem below (h : Fr S w w') {B : Nat} (hB : B ≤ w.heap.size) (hs : ∀ k, k < B → ¬ S k) : Below B w w' := ⟨h.os, h.tape, h.output, h.size, fun k hk => h.block k (by omega) (hs k hk)⟩
theorem drew (h : Fr S w w') : Fr S w w'.drew := ⟨h.os, h.tape, h.output, h.size, h.block⟩
theorem drewN (h : Fr S w w') (n : Nat) : Fr S w (w'.drewN n) := ⟨h.os, h.tape, h.output, h.size, h.block⟩
theorem alloc (h : Fr S w w') (o : Obj) : Fr S w (w'.alloc o) := h.trans (ofBelow ((Below.refl _ _).alloc (Nat.le_refl _) o) S)
theorem transW (h : Fr S w w') (k : Fr T w' w'') (hs : ∀ i, i < w.heap.size → T i → S i) : Fr S w w'' :=
  ⟨k.os.trans h.os, k.tape.trans h.tape, k.output.trans h.output, Nat.le_trans h.size k.size, fun i hi hn => (k.block i (Nat.lt_of_lt_of_le hi h.size) (fun ht => hn (hs i hi ht))).trans (h.block i hi hn)⟩
theorem setCell (h : Fr S w w') {p : Addr} (hp : S p.block ∨ w.heap.size ≤ p.block) (u : Value) : Fr S w (w'.setCell p u) :=
  h.transW (T := (· = p.block)) ⟨rfl, rfl, rfl, by simp [World.setCell], fun k hk hn => Below.heap_setCell _ _ _ _ hn⟩ (fun i hi e => by subst e; exact hp.resolve_right (by omega))
theorem call (h : Fr S w w') (hb : Below w'.heap.size w' w'') : Fr S w w'' := h.trans (ofBelow hb S)
theorem set2 {q : Nat} (h : Fr (· = q) w w') {q' i j : Nat} (e : q' = q) {x y : Value} : Fr (· = q) w ((w'.setCell ⟨q', i, none⟩ x).setCell ⟨q', j, none⟩ y) :=
  Fr.setCell (p := ⟨q', j, none⟩) (Fr.setCell (p := ⟨q', i, none⟩) h (.inl e) x) (.inl e) y
theorem grown (h : Fr S w w') {row : Option Nat} (hg : w'.grownBy w'' row) (hr : ∀ k, row = some k → S k ∨ w.heap.size ≤ k) : Fr S w w'' :=
  h.transW (T := fun k => row = some k) ⟨hg.os, hg.tape, hg.output, hg.size, fun k hk hn => hg.block k hk (fun e => hn e.symm)⟩ (fun i hi e => (hr i e).resolve_right (by omega))
theorem cell (h : Fr S w w') {a : Addr} {v : Value} (hc : w.cell? a = some v) (hn : ¬ S a.block) : w'.cell? a = some v :=
  (World.cell?_of_block (h.block a.block (World.block_lt_of_cell? w a hc) hn)).trans hc
end Fr

/-- The block g is a row of cells of type T. -/
def HasT (w : World) (g : Nat) (T : TypeId) : Prop := ∃ c fr, w.heap[g]? = some (.cells c T fr)
theorem HasT.lt {w : World} {g : Nat} {T : TypeId} (h : HasT w g T) : g < w.heap.size := by
  obtain ⟨c, fr, h⟩ := h
  exact (Array.getElem?_eq_some_iff.1 h).1
theorem HasT.ne {w : World} {g g' : Nat} {T T' : TypeId} (h : HasT w g T) (h' : HasT w g' T') (hn : T ≠ T') : g ≠ g' := by
  rintro rfl
  obtain ⟨c, fr, h⟩ := h
  obtain ⟨c', fr', h'⟩ := h'
  rw [h] at h'
  injection h' with h'
  injection h' with _ h2 _
  exact hn h2
theorem HasT.keep {S : Nat → Prop} {w w' : World} {g : Nat} {T : TypeId} (h : HasT w g T) (hf : Fr S w w') (hn : ¬ S g) : HasT w' g T := by
  have hlt := h.lt
  obtain ⟨c, fr, h⟩ := h
  exact ⟨c, fr, (hf.block g hlt hn).trans h⟩
theorem HasT.setCell {w : World} {g : Nat} {T : TypeId} (h : HasT w g T) (a : Addr) (u : Value) : HasT (w.setCell a u) g T := by
  obtain ⟨c, fr, h⟩ := h
  by_cases e : g = a.block
  · subst e
    unfold World.setCell
    refine ⟨if a.spot.isSome then c else c.setIfInBounds a.off u, fr, ?_⟩
    simp only [Array.getElem?_modify, h]
    cases a.spot.isSome <;> simp
  · exact ⟨c, fr, (Below.heap_setCell _ _ _ _ e).trans h⟩

/-- The cells behind A read as the bytes l (of whatever block). -/
def BytesRd (w : World) (A : Option Addr) (l : List UInt8) : Prop :=
  l = [] ∨ ∃ g off, A = some ⟨g, off, none⟩ ∧ ∀ i x, l[i]? = some x → w.cell? ⟨g, off + i, none⟩ = some (.int .u8 (x.toNat : Int))
/-- The same, in a block of bytes. -/
def BytesT (w : World) (A : Option Addr) (l : List UInt8) : Prop :=
  l = [] ∨ ∃ g off, A = some ⟨g, off, none⟩ ∧ HasT w g 5 ∧ ∀ i x, l[i]? = some x → w.cell? ⟨g, off + i, none⟩ = some (.int .u8 (x.toNat : Int))
theorem BytesT.rd {w : World} {A : Option Addr} {l : List UInt8} (h : BytesT w A l) : BytesRd w A l := h.imp id (fun ⟨g, off, h1, _, h2⟩ => ⟨g, off, h1, h2⟩)
theorem BytesT.keep {S : Nat → Prop} {w w' : World} {A : Option Addr} {l : List UInt8} (h : BytesT w A l) (hf : Fr S w w') (hn : ∀ k, S k → ¬ HasT w k 5) : BytesT w' A l := by
  refine h.imp id ?_
  rintro ⟨g, off, h1, h2, h3⟩
  have hg : ¬ S g := fun hs => hn g hs h2
  exact ⟨g, off, h1, h2.keep hf hg, fun i x hx => hf.cell (h3 i x hx) hg⟩
theorem BytesRd.below {w w' : World} {A : Option Addr} {l : List UInt8} (h : BytesRd w A l) (hb : Below w.heap.size w w') : BytesRd w' A l := by
  refine h.imp id ?_
  rintro ⟨g, off, h1, h3⟩
  exact ⟨g, off, h1, fun i x hx => cell_later hb (h3 i x hx)⟩

/-- The cells of the sectors. -/
def Secs (w : World) (xs : List Value) (l : List Sec) : Prop :=
  ∀ i s, l[i]? = some s → ∃ A c, xs[i * 2]? = some (.int .i64 s.st) ∧ xs[i * 2 + 1]? = some (.slice A s.bs.length c) ∧ BytesT w A s.bs
theorem Secs.keep {S : Nat → Prop} {w w' : World} {xs : List Value} {l : List Sec} (h : Secs w xs l) (hf : Fr S w w') (hn : ∀ k, S k → ¬ HasT w k 5) : Secs w' xs l := by
  intro i s hs
  obtain ⟨A, c, h1, h2, h3⟩ := h i s hs
  exact ⟨A, c, h1, h2, h3.keep hf hn⟩
theorem Secs.put {w : World} {xs : List Value} {l : List Sec} (h : Secs w xs l) (hlen : xs.length = l.length * 2) {a : Nat} {s : Sec} {A : Option Addr} {c : Nat} (hb : BytesT w A s.bs) :
    Secs w ((xs.set (a * 2) (.int .i64 s.st)).set (a * 2 + 1) (.slice A s.bs.length c)) (l.set a s) := by
  intro i t ht
  by_cases e : i = a
  · subst e
    have hlt : i < l.length := by
      have := (List.getElem?_eq_some_iff.1 ht).1
      simpa using this
    rw [List.getElem?_set_self hlt] at ht
    obtain rfl := Option.some.inj ht
    refine ⟨A, c, ?_, ?_, hb⟩
    · rw [List.getElem?_set_ne (by omega), List.getElem?_set_self (by omega)]
    · rw [List.getElem?_set_self (by rw [List.length_set]; omega)]
  · rw [List.getElem?_set_ne (fun h => e h.symm)] at ht
    obtain ⟨A', c', h1, h2, h3⟩ := h i t ht
    refine ⟨A', c', ?_, ?_, h3⟩
    · rw [List.getElem?_set_ne (by omega), List.getElem?_set_ne (by omega)]; exact h1
    · rw [List.getElem?_set_ne (by omega), List.getElem?_set_ne (by omega)]; exact h2

/-- A medium of the program: its head in block p, its sectors in block q. -/
structure IsMed (w : World) (p q cap : Nat) (m : Med) : Prop where
  head : w.heap[p]? = some (.cells #[.int .i64 m.g.r, .int .i64 m.g.b, .int .i64 m.g.t, .int .i64 m.g.s, .int .i64 m.g.o, .slice (some ⟨q, 0, none⟩) m.l.length cap] 136 (0, 0))
  row : ∃ xs, w.ownsRow 0 139 2 (.slice (some ⟨q, 0, none⟩) m.l.length cap) m.l.length xs ∧ Secs w xs m.l
  good : m.Good

namespace IsMed
variable {w w' : World} {p q cap : Nat} {m : Med}
theorem hasP (h : IsMed w p q cap m) : HasT w p 136 := ⟨_, _, h.head⟩
theorem hasQ (h : IsMed w p q cap m) : HasT w q 139 := by
  obtain ⟨xs, ho, _⟩ := h.row
  rcases ho.2 with ⟨h1, _⟩ | ⟨g, c, cur, hv, _, hg, _⟩
  · cases h1
  · simp at hv
    obtain ⟨rfl, _⟩ := hv
    exact ⟨_, _, hg⟩
theorem ne (h : IsMed w p q cap m) : p ≠ q := h.hasP.ne h.hasQ (by decide)
theorem keep {S : Nat → Prop} (h : IsMed w p q cap m) (hf : Fr S w w') (hp : ¬ S p) (hq : ¬ S q) (hn : ∀ k, S k → ¬ HasT w k 5) : IsMed w' p q cap m := by
  refine ⟨(hf.block p h.hasP.lt hp).trans h.head, ?_, h.good⟩
  obtain ⟨xs, ho, hs⟩ := h.row
  refine ⟨xs, ?_, hs.keep hf hn⟩
  refine ⟨ho.1, ?_⟩
  rcases ho.2 with h2 | ⟨g, c, cur, hv, hb, hg, hr⟩
  · exact .inl h2
  · refine .inr ⟨g, c, cur, hv, hb, ?_, hr⟩
    have : g = q := by simp at hv; exact hv.1.symm
    subst this
    exact (hf.block g h.hasQ.lt hq).trans hg
theorem below (h : IsMed w p q cap m) (hb : Below w.heap.size w w') : IsMed w' p q cap m := h.keep (Fr.ofBelow hb (fun _ => False)) id id (fun _ h => h.elim)

theorem c0 (h : IsMed w p q cap m) : w.cell? ⟨p, 0, none⟩ = some (.int .i64 m.g.r) := by rw [cell_of_row w p _ _ _ _ h.head]; rfl
theorem c1 (h : IsMed w p q cap m) : w.cell? ⟨p, 1, none⟩ = some (.int .i64 m.g.b) := by rw [cell_of_row w p _ _ _ _ h.head]; rfl
theorem c2 (h : IsMed w p q cap m) : w.cell? ⟨p, 2, none⟩ = some (.int .i64 m.g.t) := by rw [cell_of_row w p _ _ _ _ h.head]; rfl
theorem c3 (h : IsMed w p q cap m) : w.cell? ⟨p, 3, none⟩ = some (.int .i64 m.g.s) := by rw [cell_of_row w p _ _ _ _ h.head]; rfl
theorem c4 (h : IsMed w p q cap m) : w.cell? ⟨p, 4, none⟩ = some (.int .i64 m.g.o) := by rw [cell_of_row w p _ _ _ _ h.head]; rfl
theorem c5 (h : IsMed w p q cap m) : w.cell? ⟨p, 5, none⟩ = some (.slice (some ⟨q, 0, none⟩) m.l.length cap) := by rw [cell_of_row w p _ _ _ _ h.head]; rfl
/-- The cells of a sector that is there. -/
theorem sec (h : IsMed w p q cap m) {a : Nat} (ha : a < m.l.length) : ∃ A c, w.cell? ⟨q, a * 2, none⟩ = some (.int .i64 (m.sec a).st) ∧ w.cell? ⟨q, a * 2 + 1, none⟩ = some (.slice A (m.sec a).bs.length c) ∧ BytesT w A (m.sec a).bs ∧ (m.sec a).bs.length ≤ 64 := by
  obtain ⟨xs, ho, hs⟩ := h.row
  have hg : m.l[a]? = some (m.sec a) := by
    unfold Med.sec
    rw [Int.toNat_natCast, List.getD_eq_getElem?_getD, List.getElem?_eq_getElem ha]
    rfl
  obtain ⟨A, c, h1, h2, h3⟩ := hs a _ hg
  refine ⟨A, c, ?_, ?_, h3, ?_⟩
  · rw [ho.cellAt _ (by omega)]; exact h1
  · rw [ho.cellAt _ (by omega)]; exact h2
  · exact h.good.short _ (List.mem_of_getElem? hg)
theorem free (h : IsMed w p q cap m) (j : Nat) : w.frozen? ⟨q, j, none⟩ = false := by
  obtain ⟨xs, ho, _⟩ := h.row
  exact ho.frozenAt j
/-- A sector is stored. -/
theorem put (h : IsMed w p q cap m) {a : Nat} {s : Sec} {A : Option Addr} {c : Nat} (hb : BytesT w A s.bs) (hs64 : s.bs.length ≤ 64) :
    IsMed ((w.setCell ⟨q, a * 2, none⟩ (.int .i64 s.st)).setCell ⟨q, a * 2 + 1, none⟩ (.slice A s.bs.length c)) p q cap { m with l := m.l.set a s } := by
  have hne := h.ne
  have hf : Fr (· = q) w ((w.setCell ⟨q, a * 2, none⟩ (.int .i64 s.st)).setCell ⟨q, a * 2 + 1, none⟩ (.slice A s.bs.length c)) := Fr.setCell (p := ⟨q, a * 2 + 1, none⟩) (Fr.setCell (p := ⟨q, a * 2, none⟩) (Fr.refl (· = q) w) (.inl rfl) _) (.inl rfl) _
  have hnt : ∀ k, k = q → ¬ HasT w k 5 := fun k e hh => by
    subst e
    exact h.hasQ.ne hh (by decide) rfl
  obtain ⟨xs, ho, hs⟩ := h.row
  refine ⟨?_, ⟨(xs.set (a * 2) (.int .i64 s.st)).set (a * 2 + 1) (.slice A s.bs.length c), ?_, ?_⟩, ?_⟩
  · simp only [List.length_set]
    exact (hf.block p h.hasP.lt hne).trans h.head
  · simp only [List.length_set]
    exact ((ho.stored _ _).1.stored _ _).1
  · exact (hs.keep hf hnt).put ho.1 (hb.keep hf hnt)
  · exact ⟨h.good.ok, by simp only [List.length_set]; exact h.good.len, Med.mem_set_short h.good.short hs64⟩
end IsMed
end Go.Proofs.Ytmloiifnadaaoaa
