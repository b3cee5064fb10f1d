/- Plain mathematics of media: sectors, writes, erasures. -/
import Derived.Test.YtmloiifnadaaoaaGreatGeoW
import Derived.Deep.Draws
import Derived.Lib.SliceRun
namespace Go.Proofs.YtmloiifnadaaoaaGreat
open Go.RowKit

/-- A sector: its state (0 blank, 1 written, 2 destroyed) and its bytes. -/
structure Sec where
  st : Int
  bs : List UInt8
def Sec.blank : Sec := ⟨0, []⟩
def Sec.dead : Sec := ⟨2, []⟩

structure Med where
  g : Geo
  l : List Sec

namespace Med
/-- A medium is well made: its geometry is valid, it has just its sectors, and no sector has more than 64 bytes. -/
structure Good (m : Med) : Prop where
  ok : m.g.Ok
  len : (m.l.length : Int) = m.g.size
  short : ∀ s ∈ m.l, s.bs.length ≤ 64

def has (m : Med) (a : Int) : Bool := decide (0 ≤ a ∧ a < (m.l.length : Int))
def sec (m : Med) (a : Int) : Sec := m.l.getD a.toNat Sec.blank
def state (m : Med) (a : Int) : Int := if m.has a then (m.sec a).st else 0
/-- Read: bytes, error. -/
def readE (m : Med) (a : Int) : Int := if m.has a = false then 2 else if (m.sec a).st ≠ 1 then 15 else 0
def readB (m : Med) (a : Int) : List UInt8 := if m.readE a = 0 then (m.sec a).bs else []

def kill (l : List Sec) (sh : List Int) : List Sec := sh.foldl (fun l s => l.set s.toNat Sec.dead) l
def wipe (l : List Sec) (from_ n : Nat) : List Sec := (List.range n).foldl (fun l i => l.set (from_ + i) Sec.blank) l

def writeE (m : Med) (a : Int) (b : List UInt8) : Int := if m.has a = false then 2 else if 64 < b.length then 7 else 0
def write (m : Med) (a : Int) (b : List UInt8) : Med := if m.writeE a b = 0 then { m with l := kill (m.l.set a.toNat ⟨1, b⟩) (m.g.shadow a) } else m
def eraseE (m : Med) (k : Int) : Int := if 0 ≤ k ∧ k < m.g.b then 0 else 2
def erase (m : Med) (k : Int) : Med := if m.eraseE k = 0 then { m with l := wipe m.l (m.g.r + k * (m.g.t * m.g.s)).toNat (m.g.t * m.g.s).toNat } else m
def new (g : Geo) : Med := ⟨g, List.replicate g.size.toNat Sec.blank⟩

theorem kill_len (l : List Sec) (sh : List Int) : (kill l sh).length = l.length := by
  unfold kill
  induction sh generalizing l with
  | nil => rfl
  | cons s sh ih => rw [List.foldl_cons, ih, List.length_set]
theorem wipe_len (l : List Sec) (a n : Nat) : (wipe l a n).length = l.length := by
  unfold wipe
  induction n with
  | zero => rfl
  | succ n ih => rw [List.range_succ, List.foldl_append]; simp only [List.foldl_cons, List.foldl_nil, List.length_set]; exact ih
theorem wipe_succ (l : List Sec) (a n : Nat) : wipe l a (n + 1) = (wipe l a n).set (a + n) Sec.blank := by
  unfold wipe
  rw [List.range_succ, List.foldl_append]
  rfl
theorem kill_snoc (l : List Sec) (sh : List Int) (s : Int) : kill l (sh ++ [s]) = (kill l sh).set s.toNat Sec.dead := by
  unfold kill
  rw [List.foldl_append]
  rfl
theorem mem_set_short {l : List Sec} (h : ∀ s ∈ l, s.bs.length ≤ 64) {i : Nat} {x : Sec} (hx : x.bs.length ≤ 64) : ∀ s ∈ l.set i x, s.bs.length ≤ 64 := by
  intro s hs
  rcases List.mem_or_eq_of_mem_set hs with h1 | h1
  · exact h s h1
  · rw [h1]; exact hx
theorem kill_short {l : List Sec} (h : ∀ s ∈ l, s.bs.length ≤ 64) (sh : List Int) : ∀ s ∈ kill l sh, s.bs.length ≤ 64 := by
  unfold kill
  induction sh generalizing l with
  | nil => exact h
  | cons s sh ih => exact ih (mem_set_short h (by simp [Sec.dead]))
theorem wipe_short {l : List Sec} (h : ∀ s ∈ l, s.bs.length ≤ 64) (a n : Nat) : ∀ s ∈ wipe l a n, s.bs.length ≤ 64 := by
  induction n with
  | zero => exact h
  | succ n ih => rw [wipe_succ]; exact mem_set_short ih (by simp [Sec.blank])

theorem writeE_zero {m : Med} {a : Int} {b : List UInt8} : m.writeE a b = 0 ↔ m.has a = true ∧ b.length ≤ 64 := by
  unfold writeE
  cases m.has a with
  | false => simp
  | true => by_cases h : 64 < b.length <;> simp [h]; omega
theorem write_g (m : Med) (a : Int) (b : List UInt8) : (m.write a b).g = m.g := by unfold write; split <;> rfl
theorem erase_g (m : Med) (k : Int) : (m.erase k).g = m.g := by unfold erase; split <;> rfl
theorem write_len (m : Med) (a : Int) (b : List UInt8) : (m.write a b).l.length = m.l.length := by
  unfold write; split
  · simp only [kill_len, List.length_set]
  · rfl
theorem erase_len (m : Med) (k : Int) : (m.erase k).l.length = m.l.length := by
  unfold erase; split
  · simp only [wipe_len]
  · rfl
theorem Good.write {m : Med} (h : m.Good) (a : Int) (b : List UInt8) : (m.write a b).Good := by
  refine ⟨by rw [write_g]; exact h.ok, by rw [write_len, write_g]; exact h.len, ?_⟩
  unfold Med.write
  split
  · rename_i h0
    exact kill_short (mem_set_short h.short (writeE_zero.1 h0).2) _
  · exact h.short
theorem Good.erase {m : Med} (h : m.Good) (k : Int) : (m.erase k).Good := by
  refine ⟨by rw [erase_g]; exact h.ok, by rw [erase_len, erase_g]; exact h.len, ?_⟩
  unfold Med.erase
  split
  · exact wipe_short h.short _ _
  · exact h.short
theorem good_new {g : Geo} (h : g.Ok) : (new g).Good := by
  refine ⟨h, ?_, ?_⟩
  · have := (Geo.size_bd g).1
    simp only [new, List.length_replicate]
    omega
  · intro s hs
    simp only [new] at hs
    rw [(List.mem_replicate.1 hs).2]
    simp [Sec.blank]
theorem Good.len_le {m : Med} (h : m.Good) : m.l.length ≤ 81920 := by
  have := h.len
  have := (Geo.size_bd m.g).2
  omega
theorem has_iff {m : Med} {a : Int} : m.has a = true ↔ 0 ≤ a ∧ a < (m.l.length : Int) := by simp [has]
theorem has_no {m : Med} {a : Int} : m.has a = false ↔ ¬ (0 ≤ a ∧ a < (m.l.length : Int)) := by simp [has]
/-- A sector of the shadow is there. -/
theorem shadow_has {m : Med} (h : m.Good) {a s : Int} (hs : s ∈ m.g.shadow a) : m.has s = true := by
  unfold Geo.shadow at hs
  obtain ⟨k, hk, rfl⟩ := List.mem_map.1 hs
  rw [List.mem_range] at hk
  cases hi : m.g.inBand a with
  | false => unfold Geo.nsh at hk; rw [hi] at hk; simp at hk
  | true =>
    have h2 := (Geo.nsh_lt hi k).2 hk
    obtain ⟨_, h4⟩ := Geo.shadow_at hi (k := (k : Int) + 1) (by omega) h2.2
    obtain ⟨ho, h5, h6⟩ := Geo.inBand_iff.1 h4
    have := h.len
    rw [Geo.size_ok ho] at this
    have := ho.r0
    exact has_iff.2 ⟨by omega, by omega⟩
theorem erase_has {m : Med} (h : m.Good) {k : Int} (hk : 0 ≤ k ∧ k < m.g.b) : 0 ≤ m.g.r + k * (m.g.t * m.g.s) ∧ m.g.r + k * (m.g.t * m.g.s) + m.g.t * m.g.s ≤ (m.l.length : Int) := by
  have ho := h.ok
  have := h.len
  rw [Geo.size_ok ho] at this
  have h1 := ho.ts
  have h2 : 0 ≤ k * (m.g.t * m.g.s) := Int.mul_nonneg hk.1 (by omega)
  have h3 : (k + 1) * (m.g.t * m.g.s) ≤ m.g.b * (m.g.t * m.g.s) := Int.mul_le_mul_of_nonneg_right (by omega) (by omega)
  rw [Int.add_mul] at h3
  have := ho.r0
  omega
end Med
end Go.Proofs.YtmloiifnadaaoaaGreat
/- Media in memory: what a medium of the program is, and what leaves it as it was. -/
namespace Go.Proofs.YtmloiifnadaaoaaGreat
open Go.RowKit
set_option linter.unusedVariables false

/-- From w to w' only the blocks of S have turned (and blocks are new). -/
structure Fr (S : Nat → Prop) (w w' : World) : Prop where
  os : w'.os = w.os
  tape : w'.tape = w.tape
  output : w'.output = w.output
  size : w.heap.size ≤ w'.heap.size
  block : ∀ k, k < w.heap.size → ¬ S k → w'.heap[k]? = w.heap[k]?

namespace Fr
variable {S T : Nat → Prop} {w w' w'' : World}
theorem refl (S : Nat → Prop) (w : World) : Fr S w w := ⟨rfl, rfl, rfl, Nat.le_refl _, fun _ _ _ => rfl⟩
theorem trans (h : Fr S w w') (k : Fr S w' w'') : Fr S w w'' :=
  ⟨k.os.trans h.os, k.tape.trans h.tape, k.output.trans h.output, Nat.le_trans h.size k.size, fun i hi hn => (k.block i (Nat.lt_of_lt_of_le hi h.size) hn).trans (h.block i hi hn)⟩
theorem mono (h : Fr S w w') (hs : ∀ k, k < w.heap.size → S k → T k) : Fr T w w' := ⟨h.os, h.tape, h.output, h.size, fun k hk hn => h.block k hk (fun hh => hn (hs k hk hh))⟩
theorem ofBelow (h : Below w.heap.size w w') (S : Nat → Prop) : Fr S w w' := ⟨h.os, h.tape, h.output, h.size, fun k hk _ => h.block k hk⟩
theorem below (h : Fr S w w') {B : Nat} (hB : B ≤ w.heap.size) (hs : ∀ k, k < B → ¬ S k) : Below B w w' := ⟨h.os, h.tape, h.output, h.size, fun k hk => h.block k (by omega) (hs k hk)⟩
theorem drew (h : Fr S w w') : Fr S w w'.drew := ⟨h.os, h.tape, h.output, h.size, h.block⟩
theorem drewN (h : Fr S w w') (n : Nat) : Fr S w (w'.drewN n) := ⟨h.os, h.tape, h.output, h.size, h.block⟩
theorem alloc (h : Fr S w w') (o : Obj) : Fr S w (w'.alloc o) := h.trans (ofBelow ((Below.refl _ _).alloc (Nat.le_refl _) o) S)
theorem transW (h : Fr S w w') (k : Fr T w' w'') (hs : ∀ i, i < w.heap.size → T i → S i) : Fr S w w'' :=
  ⟨k.os.trans h.os, k.tape.trans h.tape, k.output.trans h.output, Nat.le_trans h.size k.size, fun i hi hn => (k.block i (Nat.lt_of_lt_of_le hi h.size) (fun ht => hn (hs i hi ht))).trans (h.block i hi hn)⟩
theorem setCell (h : Fr S w w') {p : Addr} (hp : S p.block ∨ w.heap.size ≤ p.block) (u : Value) : Fr S w (w'.setCell p u) :=
  h.transW (T := (· = p.block)) ⟨rfl, rfl, rfl, by simp [World.setCell], fun k hk hn => Below.heap_setCell _ _ _ _ hn⟩ (fun i hi e => by subst e; exact hp.resolve_right (by omega))
theorem call (h : Fr S w w') (hb : Below w'.heap.size w' w'') : Fr S w w'' := h.trans (ofBelow hb S)
theorem set2 {q : Nat} (h : Fr (· = q) w w') {q' i j : Nat} (e : q' = q) {x y : Value} : Fr (· = q) w ((w'.setCell ⟨q', i, none⟩ x).setCell ⟨q', j, none⟩ y) :=
  Fr.setCell (p := ⟨q', j, none⟩) (Fr.setCell (p := ⟨q', i, none⟩) h (.inl e) x) (.inl e) y
theorem grown (h : Fr S w w') {row : Option Nat} (hg : w'.grownBy w'' row) (hr : ∀ k, row = some k → S k ∨ w.heap.size ≤ k) : Fr S w w'' :=
  h.transW (T := fun k => row = some k) ⟨hg.os, hg.tape, hg.output, hg.size, fun k hk hn => hg.block k hk (fun e => hn e.symm)⟩ (fun i hi e => (hr i e).resolve_right (by omega))
theorem cell (h : Fr S w w') {a : Addr} {v : Value} (hc : w.cell? a = some v) (hn : ¬ S a.block) : w'.cell? a = some v :=
  (World.cell?_of_block (h.block a.block (World.block_lt_of_cell? w a hc) hn)).trans hc
end Fr

/-- The block g is a row of cells of type T. -/
def HasT (w : World) (g : Nat) (T : TypeId) : Prop := ∃ c fr, w.heap[g]? = some (.cells c T fr)
theorem HasT.lt {w : World} {g : Nat} {T : TypeId} (h : HasT w g T) : g < w.heap.size := by
  obtain ⟨c, fr, h⟩ := h
  exact (Array.getElem?_eq_some_iff.1 h).1
theorem HasT.ne {w : World} {g g' : Nat} {T T' : TypeId} (h : HasT w g T) (h' : HasT w g' T') (hn : T ≠ T') : g ≠ g' := by
  rintro rfl
  obtain ⟨c, fr, h⟩ := h
  obtain ⟨c', fr', h'⟩ := h'
  rw [h] at h'
  injection h' with h'
  injection h' with _ h2 _
  exact hn h2
theorem HasT.keep {S : Nat → Prop} {w w' : World} {g : Nat} {T : TypeId} (h : HasT w g T) (hf : Fr S w w') (hn : ¬ S g) : HasT w' g T := by
  have hlt := h.lt
  obtain ⟨c, fr, h⟩ := h
  exact ⟨c, fr, (hf.block g hlt hn).trans h⟩
theorem HasT.setCell {w : World} {g : Nat} {T : TypeId} (h : HasT w g T) (a : Addr) (u : Value) : HasT (w.setCell a u) g T := by
  obtain ⟨c, fr, h⟩ := h
  by_cases e : g = a.block
  · subst e
    unfold World.setCell
    refine ⟨if a.spot.isSome then c else c.setIfInBounds a.off u, fr, ?_⟩
    simp only [Array.getElem?_modify, h]
    cases a.spot.isSome <;> simp
  · exact ⟨c, fr, (Below.heap_setCell _ _ _ _ e).trans h⟩

/-- The cells behind A read as the bytes l (of whatever block). -/
def BytesRd (w : World) (A : Option Addr) (l : List UInt8) : Prop :=
  l = [] ∨ ∃ g off, A = some ⟨g, off, none⟩ ∧ ∀ i x, l[i]? = some x → w.cell? ⟨g, off + i, none⟩ = some (.int .u8 (x.toNat : Int))
/-- The same, in a block of bytes. -/
def BytesT (w : World) (A : Option Addr) (l : List UInt8) : Prop :=
  l = [] ∨ ∃ g off, A = some ⟨g, off, none⟩ ∧ HasT w g 5 ∧ ∀ i x, l[i]? = some x → w.cell? ⟨g, off + i, none⟩ = some (.int .u8 (x.toNat : Int))
theorem BytesT.rd {w : World} {A : Option Addr} {l : List UInt8} (h : BytesT w A l) : BytesRd w A l := h.imp id (fun ⟨g, off, h1, _, h2⟩ => ⟨g, off, h1, h2⟩)
theorem BytesT.keep {S : Nat → Prop} {w w' : World} {A : Option Addr} {l : List UInt8} (h : BytesT w A l) (hf : Fr S w w') (hn : ∀ k, S k → ¬ HasT w k 5) : BytesT w' A l := by
  refine h.imp id ?_
  rintro ⟨g, off, h1, h2, h3⟩
  have hg : ¬ S g := fun hs => hn g hs h2
  exact ⟨g, off, h1, h2.keep hf hg, fun i x hx => hf.cell (h3 i x hx) hg⟩
theorem BytesRd.below {w w' : World} {A : Option Addr} {l : List UInt8} (h : BytesRd w A l) (hb : Below w.heap.size w w') : BytesRd w' A l := by
  refine h.imp id ?_
  rintro ⟨g, off, h1, h3⟩
  exact ⟨g, off, h1, fun i x hx => cell_later hb (h3 i x hx)⟩

/-- The cells of the sectors. -/
def Secs (w : World) (xs : List Value) (l : List Sec) : Prop :=
  ∀ i s, l[i]? = some s → ∃ A c, xs[i * 2]? = some (.int .i64 s.st) ∧ xs[i * 2 + 1]? = some (.slice A s.bs.length c) ∧ BytesT w A s.bs
theorem Secs.keep {S : Nat → Prop} {w w' : World} {xs : List Value} {l : List Sec} (h : Secs w xs l) (hf : Fr S w w') (hn : ∀ k, S k → ¬ HasT w k 5) : Secs w' xs l := by
  intro i s hs
  obtain ⟨A, c, h1, h2, h3⟩ := h i s hs
  exact ⟨A, c, h1, h2, h3.keep hf hn⟩
theorem Secs.put {w : World} {xs : List Value} {l : List Sec} (h : Secs w xs l) (hlen : xs.length = l.length * 2) {a : Nat} {s : Sec} {A : Option Addr} {c : Nat} (hb : BytesT w A s.bs) :
    Secs w ((xs.set (a * 2) (.int .i64 s.st)).set (a * 2 + 1) (.slice A s.bs.length c)) (l.set a s) := by
  intro i t ht
  by_cases e : i = a
  · subst e
    have hlt : i < l.length := by
      have := (List.getElem?_eq_some_iff.1 ht).1
      simpa using this
    rw [List.getElem?_set_self hlt] at ht
    obtain rfl := Option.some.inj ht
    refine ⟨A, c, ?_, ?_, hb⟩
    · rw [List.getElem?_set_ne (by omega), List.getElem?_set_self (by omega)]
    · rw [List.getElem?_set_self (by rw [List.length_set]; omega)]
  · rw [List.getElem?_set_ne (fun h => e h.symm)] at ht
    obtain ⟨A', c', h1, h2, h3⟩ := h i t ht
    refine ⟨A', c', ?_, ?_, h3⟩
    · rw [List.getElem?_set_ne (by omega), List.getElem?_set_ne (by omega)]; exact h1
    · rw [List.getElem?_set_ne (by omega), List.getElem?_set_ne (by omega)]; exact h2

/-- A medium of the program: its head in block p, its sectors in block q. -/
structure IsMed (w : World) (p q cap : Nat) (m : Med) : Prop where
  head : w.heap[p]? = some (.cells #[.int .i64 m.g.r, .int .i64 m.g.b, .int .i64 m.g.t, .int .i64 m.g.s, .int .i64 m.g.o, .slice (some ⟨q, 0, none⟩) m.l.length cap] 126 (0, 0))
  row : ∃ xs, w.ownsRow 0 133 2 (.slice (some ⟨q, 0, none⟩) m.l.length cap) m.l.length xs ∧ Secs w xs m.l
  good : m.Good

namespace IsMed
variable {w w' : World} {p q cap : Nat} {m : Med}
theorem hasP (h : IsMed w p q cap m) : HasT w p 126 := ⟨_, _, h.head⟩
theorem hasQ (h : IsMed w p q cap m) : HasT w q 133 := by
  obtain ⟨xs, ho, _⟩ := h.row
  rcases ho.2 with ⟨h1, _⟩ | ⟨g, c, cur, hv, _, hg, _⟩
  · cases h1
  · simp at hv
    obtain ⟨rfl, _⟩ := hv
    exact ⟨_, _, hg⟩
theorem ne (h : IsMed w p q cap m) : p ≠ q := h.hasP.ne h.hasQ (by decide)
theorem keep {S : Nat → Prop} (h : IsMed w p q cap m) (hf : Fr S w w') (hp : ¬ S p) (hq : ¬ S q) (hn : ∀ k, S k → ¬ HasT w k 5) : IsMed w' p q cap m := by
  refine ⟨(hf.block p h.hasP.lt hp).trans h.head, ?_, h.good⟩
  obtain ⟨xs, ho, hs⟩ := h.row
  refine ⟨xs, ?_, hs.keep hf hn⟩
  refine ⟨ho.1, ?_⟩
  rcases ho.2 with h2 | ⟨g, c, cur, hv, hb, hg, hr⟩
  · exact .inl h2
  · refine .inr ⟨g, c, cur, hv, hb, ?_, hr⟩
    have : g = q := by simp at hv; exact hv.1.symm
    subst this
    exact (hf.block g h.hasQ.lt hq).trans hg
theorem below (h : IsMed w p q cap m) (hb : Below w.heap.size w w') : IsMed w' p q cap m := h.keep (Fr.ofBelow hb (fun _ => False)) id id (fun _ h => h.elim)

theorem c0 (h : IsMed w p q cap m) : w.cell? ⟨p, 0, none⟩ = some (.int .i64 m.g.r) := by rw [cell_of_row w p _ _ _ _ h.head]; rfl
theorem c1 (h : IsMed w p q cap m) : w.cell? ⟨p, 1, none⟩ = some (.int .i64 m.g.b) := by rw [cell_of_row w p _ _ _ _ h.head]; rfl
theorem c2 (h : IsMed w p q cap m) : w.cell? ⟨p, 2, none⟩ = some (.int .i64 m.g.t) := by rw [cell_of_row w p _ _ _ _ h.head]; rfl
theorem c3 (h : IsMed w p q cap m) : w.cell? ⟨p, 3, none⟩ = some (.int .i64 m.g.s) := by rw [cell_of_row w p _ _ _ _ h.head]; rfl
theorem c4 (h : IsMed w p q cap m) : w.cell? ⟨p, 4, none⟩ = some (.int .i64 m.g.o) := by rw [cell_of_row w p _ _ _ _ h.head]; rfl
theorem c5 (h : IsMed w p q cap m) : w.cell? ⟨p, 5, none⟩ = some (.slice (some ⟨q, 0, none⟩) m.l.length cap) := by rw [cell_of_row w p _ _ _ _ h.head]; rfl
/-- The cells of a sector that is there. -/
theorem sec (h : IsMed w p q cap m) {a : Nat} (ha : a < m.l.length) : ∃ A c, w.cell? ⟨q, a * 2, none⟩ = some (.int .i64 (m.sec a).st) ∧ w.cell? ⟨q, a * 2 + 1, none⟩ = some (.slice A (m.sec a).bs.length c) ∧ BytesT w A (m.sec a).bs ∧ (m.sec a).bs.length ≤ 64 := by
  obtain ⟨xs, ho, hs⟩ := h.row
  have hg : m.l[a]? = some (m.sec a) := by
    unfold Med.sec
    rw [Int.toNat_natCast, List.getD_eq_getElem?_getD, List.getElem?_eq_getElem ha]
    rfl
  obtain ⟨A, c, h1, h2, h3⟩ := hs a _ hg
  refine ⟨A, c, ?_, ?_, h3, ?_⟩
  · rw [ho.cellAt _ (by omega)]; exact h1
  · rw [ho.cellAt _ (by omega)]; exact h2
  · exact h.good.short _ (List.mem_of_getElem? hg)
theorem free (h : IsMed w p q cap m) (j : Nat) : w.frozen? ⟨q, j, none⟩ = false := by
  obtain ⟨xs, ho, _⟩ := h.row
  exact ho.frozenAt j
/-- A sector is stored. -/
theorem put (h : IsMed w p q cap m) {a : Nat} {s : Sec} {A : Option Addr} {c : Nat} (hb : BytesT w A s.bs) (hs64 : s.bs.length ≤ 64) :
    IsMed ((w.setCell ⟨q, a * 2, none⟩ (.int .i64 s.st)).setCell ⟨q, a * 2 + 1, none⟩ (.slice A s.bs.length c)) p q cap { m with l := m.l.set a s } := by
  have hne := h.ne
  have hf : Fr (· = q) w ((w.setCell ⟨q, a * 2, none⟩ (.int .i64 s.st)).setCell ⟨q, a * 2 + 1, none⟩ (.slice A s.bs.length c)) := Fr.setCell (p := ⟨q, a * 2 + 1, none⟩) (Fr.setCell (p := ⟨q, a * 2, none⟩) (Fr.refl (· = q) w) (.inl rfl) _) (.inl rfl) _
  have hnt : ∀ k, k = q → ¬ HasT w k 5 := fun k e hh => by
    subst e
    exact h.hasQ.ne hh (by decide) rfl
  obtain ⟨xs, ho, hs⟩ := h.row
  refine ⟨?_, ⟨(xs.set (a * 2) (.int .i64 s.st)).set (a * 2 + 1) (.slice A s.bs.length c), ?_, ?_⟩, ?_⟩
  · simp only [List.length_set]
    exact (hf.block p h.hasP.lt hne).trans h.head
  · simp only [List.length_set]
    exact ((ho.stored _ _).1.stored _ _).1
  · exact (hs.keep hf hnt).put ho.1 (hb.keep hf hnt)
  · exact ⟨h.good.ok, by simp only [List.length_set]; exact h.good.len, Med.mem_set_short h.good.short hs64⟩
end IsMed
end Go.Proofs.YtmloiifnadaaoaaGreat
/- The walks of slices.Clone at the four types that occur: bytes, sectors, operations, faults. -/
namespace Go.Proofs.YtmloiifnadaaoaaGreat
open Go.RowKit
set_option linter.unusedVariables false
set_option linter.unusedSimpArgs false

/-- The cells behind A read as xs. -/
def CellsRd (w : World) (A : Option Addr) (xs : List Value) : Prop := ∀ a, A = some a → ∀ j u, xs[j]? = some u → w.cell? (a.add j) = some u
theorem CellsRd.below {w w' : World} {A : Option Addr} {xs : List Value} (h : CellsRd w A xs) (hb : Below w.heap.size w w') : CellsRd w' A xs := fun a ha j u hu => cell_later hb (h a ha j u hu)

theorem Tryz.info_bytes : (Tryz.prog.info? 5).map (fun i => (i.zero, i.size, i.bytes)) = some (some (.int .u8 0), 1, 1) := by kernel_rfl

set_option maxHeartbeats 1000000 in
set_option maxRecDepth 1000000 in
theorem clone_bytes (A : Option Addr) (n c : Nat) (xs : List Value) (w : World) (hx : xs.length = n * 1) (h : CellsRd w A xs) (h1 : ∀ u ∈ xs, u.oneCell' = true) (hn : n * 1 ≤ 140737488351232) (hnil : A = none → n = 0) :
    Calls Tryz.prog 82 #[.slice A n c] w fun e w' => ∃ v, e = .returned v ∧ w'.ownsRow w.heap.size 5 1 v n xs ∧ Below w.heap.size w w' ∧ (v = .slice none 0 0 ↔ A = none) := by
  have qT : ∀ (w : World) (a : Option Addr) (n c n' c' : Nat), (binOp .eql 53 (.slice a n c) (.slice none n' c')).run Tryz.prog w = .ok (.bool a.isNone) w := fun w a n c n' c' => Lib.run_eql_slice_nil w _ _ a n c n' c' Tryz.underlying53
  obtain ⟨i0, hinf, hz0, hz1, hz2⟩ := info_parts Tryz.info_bytes
  cases A with
  | none =>
    obtain rfl := hnil rfl
    have hxs : xs = [] := List.eq_nil_of_length_eq_zero (by omega)
    subst hxs
    go_enter Tryz.func82, Tryz.ntmps82
    go_wp2
    go_ret
    exact ⟨_, rfl, World.ownsRow_nil _ _ _ _, (by repeat (first | (with_reducible exact Below.refl _ _) | (with_reducible refine Below.drew ?_) | (with_reducible refine below_drw ?_ _) | (with_reducible refine below_alloc ?_ _) | (with_reducible refine below_set ?_ (by simp <;> omega) _) | (refine below_of (by assumption) ?_))), by simp⟩
  | some a =>
    have H := Lib.hid (h a rfl)
    have Hx := Lib.hid hx
    have H1 := Lib.hid h1
    have hn' : n ≤ 140737488351232 := by omega
    clear h hx h1 hnil
    go_enter Tryz.func82, Tryz.ntmps82
    go_wp2_with (at_builtin; refine wpList_append_own _ rfl _ _ 53 rfl w.heap.size 5 i0 (.int .u8 0) 1 1 Tryz.underlying53 hinf hz0 hz1 hz2 rfl (by decide) _ _ _ rfl (World.ownsRow_made w #[] 0 (Nat.le_refl _) (by decide) rfl) a n c xs rfl Hx.out ?c1 H1.out ?c3 ?c4 ?c5 ?_)
    case c1 => exact fun j u hj => cell_later ((Below.refl _ _).alloc (Nat.le_refl _) _) (H.out j u hj)
    case c3 => unfold maxLen; omega
    case c4 => omega
    case c5 => simp
    intro v' w' hown hgrow hnil'
    have hb : Below w.heap.size w w' := ((Below.refl _ _).alloc (Nat.le_refl _) _).grown hgrow (by simp) (fun k hk => by simp [Value.ownBlock] at hk; omega)
    have hown2 : w'.ownsRow w.heap.size 5 1 v' n xs := by simpa using hown
    have Hown := Lib.hid hown2
    have Hnil := Lib.hid hnil'
    clear hown hown2 hgrow hnil'
    go_wp2
    go_ret
    exact ⟨_, rfl, Hown.out, hb, ⟨fun h => absurd h Hnil.out, fun h => by cases h⟩⟩

theorem Tryz.info_sectors : (Tryz.prog.info? 133).map (fun i => (i.zero, i.size, i.bytes)) = some (some (.agg #[.int .i64 0, .slice none 0 0]), 2, 32) := by kernel_rfl

set_option maxHeartbeats 1000000 in
set_option maxRecDepth 1000000 in
theorem clone_sectors (A : Option Addr) (n c : Nat) (xs : List Value) (w : World) (hx : xs.length = n * 2) (h : CellsRd w A xs) (h1 : ∀ u ∈ xs, u.oneCell' = true) (hn : n * 32 ≤ 140737488351232) (hnil : A = none → n = 0) :
    Calls Tryz.prog 92 #[.slice A n c] w fun e w' => ∃ v, e = .returned v ∧ w'.ownsRow w.heap.size 133 2 v n xs ∧ Below w.heap.size w w' ∧ (v = .slice none 0 0 ↔ A = none) := by
  have qT : ∀ (w : World) (a : Option Addr) (n c n' c' : Nat), (binOp .eql 124 (.slice a n c) (.slice none n' c')).run Tryz.prog w = .ok (.bool a.isNone) w := fun w a n c n' c' => Lib.run_eql_slice_nil w _ _ a n c n' c' Tryz.underlying124
  obtain ⟨i0, hinf, hz0, hz1, hz2⟩ := info_parts Tryz.info_sectors
  cases A with
  | none =>
    obtain rfl := hnil rfl
    have hxs : xs = [] := List.eq_nil_of_length_eq_zero (by omega)
    subst hxs
    go_enter Tryz.func92, Tryz.ntmps92
    go_wp2
    go_ret
    exact ⟨_, rfl, World.ownsRow_nil _ _ _ _, (by repeat (first | (with_reducible exact Below.refl _ _) | (with_reducible refine Below.drew ?_) | (with_reducible refine below_drw ?_ _) | (with_reducible refine below_alloc ?_ _) | (with_reducible refine below_set ?_ (by simp <;> omega) _) | (refine below_of (by assumption) ?_))), by simp⟩
  | some a =>
    have H := Lib.hid (h a rfl)
    have Hx := Lib.hid hx
    have H1 := Lib.hid h1
    have hn' : n ≤ 140737488351232 := by omega
    clear h hx h1 hnil
    go_enter Tryz.func92, Tryz.ntmps92
    go_wp2_with (at_builtin; refine wpList_append_own _ rfl _ _ 124 rfl w.heap.size 133 i0 (.agg #[.int .i64 0, .slice none 0 0]) 2 32 Tryz.underlying124 hinf hz0 hz1 hz2 rfl (by decide) _ _ _ rfl (World.ownsRow_made w #[] 0 (Nat.le_refl _) (by decide) rfl) a n c xs rfl Hx.out ?c1 H1.out ?c3 ?c4 ?c5 ?_)
    case c1 => exact fun j u hj => cell_later ((Below.refl _ _).alloc (Nat.le_refl _) _) (H.out j u hj)
    case c3 => unfold maxLen; omega
    case c4 => omega
    case c5 => simp
    intro v' w' hown hgrow hnil'
    have hb : Below w.heap.size w w' := ((Below.refl _ _).alloc (Nat.le_refl _) _).grown hgrow (by simp) (fun k hk => by simp [Value.ownBlock] at hk; omega)
    have hown2 : w'.ownsRow w.heap.size 133 2 v' n xs := by simpa using hown
    have Hown := Lib.hid hown2
    have Hnil := Lib.hid hnil'
    clear hown hown2 hgrow hnil'
    go_wp2
    go_ret
    exact ⟨_, rfl, Hown.out, hb, ⟨fun h => absurd h Hnil.out, fun h => by cases h⟩⟩

theorem Tryz.info_opers : (Tryz.prog.info? 120).map (fun i => (i.zero, i.size, i.bytes)) = some (some (.nilFunc), 1, 8) := by kernel_rfl

theorem Tryz.info_faults : (Tryz.prog.info? 64).map (fun i => (i.zero, i.size, i.bytes)) = some (some (.agg #[.int .i64 0, .int .i64 0, .int .i64 0]), 3, 24) := by kernel_rfl

set_option maxHeartbeats 1000000 in
set_option maxRecDepth 1000000 in
theorem clone_faults (A : Option Addr) (n c : Nat) (xs : List Value) (w : World) (hx : xs.length = n * 3) (h : CellsRd w A xs) (h1 : ∀ u ∈ xs, u.oneCell' = true) (hn : n * 24 ≤ 140737488351232) (hnil : A = none → n = 0) :
    Calls Tryz.prog 50 #[.slice A n c] w fun e w' => ∃ v, e = .returned v ∧ w'.ownsRow w.heap.size 64 3 v n xs ∧ Below w.heap.size w w' ∧ (v = .slice none 0 0 ↔ A = none) := by
  have qT : ∀ (w : World) (a : Option Addr) (n c n' c' : Nat), (binOp .eql 24 (.slice a n c) (.slice none n' c')).run Tryz.prog w = .ok (.bool a.isNone) w := fun w a n c n' c' => Lib.run_eql_slice_nil w _ _ a n c n' c' Tryz.underlying24
  obtain ⟨i0, hinf, hz0, hz1, hz2⟩ := info_parts Tryz.info_faults
  cases A with
  | none =>
    obtain rfl := hnil rfl
    have hxs : xs = [] := List.eq_nil_of_length_eq_zero (by omega)
    subst hxs
    go_enter Tryz.func50, Tryz.ntmps50
    go_wp2
    go_ret
    exact ⟨_, rfl, World.ownsRow_nil _ _ _ _, (by repeat (first | (with_reducible exact Below.refl _ _) | (with_reducible refine Below.drew ?_) | (with_reducible refine below_drw ?_ _) | (with_reducible refine below_alloc ?_ _) | (with_reducible refine below_set ?_ (by simp <;> omega) _) | (refine below_of (by assumption) ?_))), by simp⟩
  | some a =>
    have H := Lib.hid (h a rfl)
    have Hx := Lib.hid hx
    have H1 := Lib.hid h1
    have hn' : n ≤ 140737488351232 := by omega
    clear h hx h1 hnil
    go_enter Tryz.func50, Tryz.ntmps50
    go_wp2_with (at_builtin; refine wpList_append_own _ rfl _ _ 24 rfl w.heap.size 64 i0 (.agg #[.int .i64 0, .int .i64 0, .int .i64 0]) 3 24 Tryz.underlying24 hinf hz0 hz1 hz2 rfl (by decide) _ _ _ rfl (World.ownsRow_made w #[] 0 (Nat.le_refl _) (by decide) rfl) a n c xs rfl Hx.out ?c1 H1.out ?c3 ?c4 ?c5 ?_)
    case c1 => exact fun j u hj => cell_later ((Below.refl _ _).alloc (Nat.le_refl _) _) (H.out j u hj)
    case c3 => unfold maxLen; omega
    case c4 => omega
    case c5 => simp
    intro v' w' hown hgrow hnil'
    have hb : Below w.heap.size w w' := ((Below.refl _ _).alloc (Nat.le_refl _) _).grown hgrow (by simp) (fun k hk => by simp [Value.ownBlock] at hk; omega)
    have hown2 : w'.ownsRow w.heap.size 64 3 v' n xs := by simpa using hown
    have Hown := Lib.hid hown2
    have Hnil := Lib.hid hnil'
    clear hown hown2 hgrow hnil'
    go_wp2
    go_ret
    exact ⟨_, rfl, Hown.out, hb, ⟨fun h => absurd h Hnil.out, fun h => by cases h⟩⟩

end Go.Proofs.YtmloiifnadaaoaaGreat
