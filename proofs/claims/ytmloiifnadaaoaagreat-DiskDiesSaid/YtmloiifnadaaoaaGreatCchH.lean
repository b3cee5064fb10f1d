/- Caches in memory: what a cache of the program is, what one of the reference is, and what leaves them as they were. -/
import Derived.Test.YtmloiifnadaaoaaGreatMedL1
namespace Go.Proofs.YtmloiifnadaaoaaGreat
open Go.RowKit
set_option linter.unusedVariables false

/-- Blocks from N on that are rows of one of the types Ts. -/
def TS (N : Nat) (Ts : List TypeId) (w : World) (k : Nat) : Prop := N ≤ k ∧ ∃ T, T ∈ Ts ∧ HasT w k T
/-- No block of S is a row of one of the types Us. -/
def Avoid (S : Nat → Prop) (w : World) (Us : List TypeId) : Prop := ∀ k T, S k → T ∈ Us → ¬ HasT w k T
theorem Avoid.not {S : Nat → Prop} {w : World} {Us : List TypeId} (h : Avoid S w Us) {k : Nat} {T : TypeId} (hk : HasT w k T) (hT : T ∈ Us) : ¬ S k := fun hs => h k T hs hT hk
theorem avoid_TS {N : Nat} {Ts Us : List TypeId} {w : World} (hd : Ts.all (fun T => !Us.contains T) = true) : Avoid (TS N Ts w) w Us := by
  rintro k T ⟨_, T', h1, h2⟩ hT hk
  have hne : T' ≠ T := by
    rintro rfl
    have := List.all_eq_true.1 hd T' h1
    simp at this
    exact this hT
  exact h2.ne hk hne rfl
theorem avoid_one {q : Nat} {T : TypeId} {Us : List TypeId} {w : World} (h : HasT w q T) (hd : (!Us.contains T) = true) : Avoid (· = q) w Us := by
  rintro k T' rfl hT' hk
  have hne : T ≠ T' := by
    rintro rfl
    simp at hd
    exact hd hT'
  exact h.ne hk hne rfl
theorem avoid_none {w : World} {Us : List TypeId} : Avoid (fun _ => False) w Us := fun _ _ h => h.elim
theorem Avoid.sub {S : Nat → Prop} {w : World} {Us Vs : List TypeId} (h : Avoid S w Us) (hs : ∀ T ∈ Vs, T ∈ Us) : Avoid S w Vs := fun k T h1 h2 => h k T h1 (hs T h2)

theorem HasT.back {S : Nat → Prop} {w w' : World} {k : Nat} {T : TypeId} (hf : Fr S w w') (hk : k < w.heap.size) (hn : ¬ S k) (h : HasT w' k T) : HasT w k T := by
  obtain ⟨c, fr, h⟩ := h
  exact ⟨c, fr, (hf.block k hk hn).symm.trans h⟩

/-- From w to w' only rows of the types Ts from N on have turned. -/
def FrT (N : Nat) (Ts : List TypeId) (w w' : World) : Prop := Fr (TS N Ts w) w w'
namespace FrT
variable {N M : Nat} {Ts Us : List TypeId} {w w' w'' : World}
theorem refl (N : Nat) (Ts : List TypeId) (w : World) : FrT N Ts w w := Fr.refl _ _
theorem trans (h : FrT N Ts w w') (k : FrT N Ts w' w'') : FrT N Ts w w'' := by
  refine Fr.transW (T := TS N Ts w') h k ?_
  rintro i hi ⟨h1, T, h2, h3⟩
  by_cases hS : TS N Ts w i
  · exact hS
  · exact ⟨h1, T, h2, h3.back h hi hS⟩
theorem ofBelow (h : Below w.heap.size w w') : FrT N Ts w w' := Fr.ofBelow h _
theorem call (h : FrT N Ts w w') (hb : Below w'.heap.size w' w'') : FrT N Ts w w'' := h.trans (ofBelow hb)
theorem mono (h : FrT N Ts w w') (hN : M ≤ N) (hs : Ts.all (fun T => Us.contains T) = true) : FrT M Us w w' :=
  Fr.mono h (by
    rintro k hk ⟨h1, T, h2, h3⟩
    exact ⟨by omega, T, by have := List.all_eq_true.1 hs T h2; simpa using this, h3⟩)
theorem below (h : FrT N Ts w w') (hN : N ≤ w.heap.size) : Below N w w' := Fr.below h hN (fun k hk hs => by have := hs.1; omega)
theorem below0 {B : Nat} (h : FrT N Ts w w') (hN : B ≤ w.heap.size) (hB : B ≤ N) : Below B w w' := Fr.below h hN (fun k hk hs => by have := hs.1; omega)
theorem ofOne {q : Nat} {T : TypeId} (h : Fr (· = q) w w') (hq : HasT w q T) (hT : Ts.contains T = true) (hN : N ≤ q) : FrT N Ts w w' :=
  Fr.mono h (by rintro k hk rfl; exact ⟨hN, T, by simpa using hT, hq⟩)
theorem ofNew {q : Nat} (h : Fr (· = q) w w') (hq : w.heap.size ≤ q) : FrT N Ts w w' := Fr.mono h (by rintro k hk rfl; omega)
theorem size (h : FrT N Ts w w') : w.heap.size ≤ w'.heap.size := Fr.size h
theorem setCell {p : Addr} {T : TypeId} (h : FrT N Ts w w') (hp : HasT w' p.block T) (hT : Ts.contains T = true) (hN : N ≤ p.block) (u : Value) : FrT N Ts w (w'.setCell p u) :=
  h.trans (ofOne (q := p.block) (Fr.setCell (S := fun k => k = p.block) (p := p) (Fr.refl _ w') (.inl rfl) u) hp hT hN)
theorem grown {row : Option Nat} (h : FrT N Ts w w') (hg : w'.grownBy w'' row) (hr : ∀ k, row = some k → TS N Ts w' k) : FrT N Ts w w'' :=
  h.trans (Fr.grown (Fr.refl _ _) hg (fun k hk => .inl (hr k hk)))
end FrT
theorem HasT.frT {N : Nat} {Ts : List TypeId} {w w' : World} {g : Nat} {T : TypeId} (h : HasT w g T) (hf : FrT N Ts w w') (hT : (!Ts.contains T) = true) : HasT w' g T :=
  HasT.keep h hf (by
    rintro ⟨_, T', h1, h2⟩
    have hne : T' ≠ T := by
      rintro rfl
      simp at hT
      exact hT h1
    exact h2.ne h hne rfl)

theorem IsMed.keepA {S : Nat → Prop} {w w' : World} {p q cap : Nat} {m : Med} (h : IsMed w p q cap m) (hf : Fr S w w') (ha : Avoid S w [126, 133, 5]) : IsMed w' p q cap m :=
  h.keep hf (ha.not h.hasP (by simp)) (ha.not h.hasQ (by simp)) (fun k hs hh => ha k _ hs (by simp) hh)
theorem IsRef.keepA {S : Nat → Prop} {w w' : World} {p q cap : Nat} {m : Med} (h : IsRef w p q cap m) (hf : Fr S w w') (ha : Avoid S w [94, 123]) : IsRef w' p q cap m :=
  h.keep hf (ha.not h.hasP (by simp)) (ha.not h.hasQ (by simp))

/-- A pending operation: a function value with what it captured. -/
def OperIs (w : World) (v : Value) (o : Opn) : Prop :=
  (o.er = true ∧ ∃ b, v = .func (.func 87) #[] #[.pointer (some ⟨b, 0, none⟩)] ∧ HasT w b 3 ∧ w.cell? ⟨b, 0, none⟩ = some (.int .i64 o.at_)) ∨
  (o.er = false ∧ o.bs.length ≤ 140737488351232 ∧ ∃ a b A c, v = .func (.func 84) #[] #[.pointer (some ⟨a, 0, none⟩), .pointer (some ⟨b, 0, none⟩)] ∧ HasT w a 3 ∧ HasT w b 53 ∧
    w.cell? ⟨a, 0, none⟩ = some (.int .i64 o.at_) ∧ w.cell? ⟨b, 0, none⟩ = some (.slice A o.bs.length c) ∧ BytesT w A o.bs)
theorem OperIs.keepA {S : Nat → Prop} {w w' : World} {v : Value} {o : Opn} (h : OperIs w v o) (hf : Fr S w w') (ha : Avoid S w [3, 53, 5]) : OperIs w' v o := by
  rcases h with ⟨h1, b, h2, h3, h4⟩ | ⟨h1, h0, a, b, A, c, h2, h3, h4, h5, h6, h7⟩
  · exact .inl ⟨h1, b, h2, h3.keep hf (ha.not h3 (by simp)), hf.cell h4 (ha.not h3 (by simp))⟩
  · exact .inr ⟨h1, h0, a, b, A, c, h2, h3.keep hf (ha.not h3 (by simp)), h4.keep hf (ha.not h4 (by simp)), hf.cell h5 (ha.not h3 (by simp)), hf.cell h6 (ha.not h4 (by simp)), h7.keep hf (fun k hs hh => ha k _ hs (by simp) hh)⟩
theorem OperIs.one {w : World} {v : Value} {o : Opn} (h : OperIs w v o) : v.oneCell' = true := by
  rcases h with ⟨_, b, rfl, _⟩ | ⟨_, _, a, b, A, c, rfl, _⟩ <;> rfl
/-- The pending operations. -/
def Opers (w : World) (xs : List Value) (l : List Opn) : Prop := ∀ (i : Nat) (o : Opn), l[i]? = some o → ∃ x, xs[i]? = some x ∧ OperIs w x o
theorem Opers.keepA {S : Nat → Prop} {w w' : World} {xs : List Value} {l : List Opn} (h : Opers w xs l) (hf : Fr S w w') (ha : Avoid S w [3, 53, 5]) : Opers w' xs l := fun i o ho => by
  obtain ⟨x, h1, h2⟩ := h i o ho
  exact ⟨x, h1, h2.keepA hf ha⟩
theorem Opers.one {w : World} {xs : List Value} {l : List Opn} (h : Opers w xs l) (hx : xs.length = l.length * 1) : ∀ u ∈ xs, u.oneCell' = true := by
  intro u hu
  obtain ⟨j, hj, rfl⟩ := List.getElem_of_mem hu
  obtain ⟨x, h1, h2⟩ := h j _ (List.getElem?_eq_getElem (by omega))
  rw [List.getElem?_eq_getElem hj] at h1
  rw [Option.some.inj h1]
  exact h2.one
theorem Opers.snoc {w : World} {xs : List Value} {l : List Opn} (h : Opers w xs l) (hx : xs.length = l.length * 1) {v : Value} {o : Opn} (hv : OperIs w v o) : Opers w (xs ++ [v]) (l ++ [o]) := by
  intro i y hy
  have hlt := (List.getElem?_eq_some_iff.1 hy).1
  simp at hlt
  by_cases e : i < l.length
  · rw [List.getElem?_append_left e] at hy
    obtain ⟨x, h1, h2⟩ := h i y hy
    exact ⟨x, by rw [List.getElem?_append_left (by omega)]; exact h1, h2⟩
  · have : i = l.length := by omega
    subst this
    simp at hy
    subst hy
    exact ⟨v, by rw [List.getElem?_append_right (by omega)]; simp [hx], hv⟩

theorem owns_frame' {S : Nat → Prop} {w w' : World} {base e size n : Nat} {v : Value} {xs : List Value} (h : w.ownsRow base e size v n xs) (hF : Fr S w w') (ha : Avoid S w [e]) : w'.ownsRow base e size v n xs := by
  refine ⟨h.1, ?_⟩
  rcases h.2 with h2 | ⟨g, c, cur, hv, hb, hg, hr⟩
  · exact .inl h2
  · exact .inr ⟨g, c, cur, hv, hb, (hF.block g (Array.getElem?_eq_some_iff.1 hg).1 (ha.not ⟨_, _, hg⟩ (by simp))).trans hg, hr⟩
theorem owns_own {w : World} {base e size n : Nat} {v : Value} {xs : List Value} (h : w.ownsRow base e size v n xs) : ∀ k, v.ownBlock = some k → base ≤ k ∧ HasT w k e := by
  intro k hk
  rcases h.2 with ⟨rfl, _⟩ | ⟨g, c, cur, rfl, hb, hg, hr⟩
  · cases hk
  · have : g = k := by simpa [Value.ownBlock] using hk
    subst this
    exact ⟨hb, _, _, hg⟩

abbrev cacheUs : List TypeId := [118, 126, 133, 5, 120, 3, 53]
/-- What the methods of a cache turn. -/
abbrev cacheTs : List TypeId := [118, 133, 120]

/-- A cache of the program, all of whose blocks that turn lie from N on: the medium d and the pending operations l. -/
structure CacheAt (w : World) (N pc p1 q1 n1 p2 q2 n2 : Nat) (v : Value) (xs : List Value) (d : Med) (l : List Opn) : Prop where
  head : w.heap[pc]? = some (.cells #[.pointer (some ⟨p1, 0, none⟩), .pointer (some ⟨p2, 0, none⟩), v] 118 (0, 0))
  dur : IsMed w p1 q1 n1 d
  con : IsMed w p2 q2 n2 (d.ops l)
  ne : q1 ≠ q2
  row : w.ownsRow N 120 1 v l.length xs
  ops : Opers w xs l
  le : N ≤ pc ∧ N ≤ p1 ∧ N ≤ q1 ∧ N ≤ p2 ∧ N ≤ q2
def IsCache (w : World) (N pc : Nat) (d : Med) (l : List Opn) : Prop := ∃ p1 q1 n1 p2 q2 n2 v xs, CacheAt w N pc p1 q1 n1 p2 q2 n2 v xs d l
namespace CacheAt
variable {w w' : World} {N M pc p1 q1 n1 p2 q2 n2 : Nat} {v : Value} {xs : List Value} {d : Med} {l : List Opn}
theorem hasC (h : CacheAt w N pc p1 q1 n1 p2 q2 n2 v xs d l) : HasT w pc 118 := ⟨_, _, h.head⟩
theorem keepA {S : Nat → Prop} (h : CacheAt w N pc p1 q1 n1 p2 q2 n2 v xs d l) (hf : Fr S w w') (ha : Avoid S w cacheUs) : CacheAt w' N pc p1 q1 n1 p2 q2 n2 v xs d l :=
  ⟨(hf.block pc h.hasC.lt (ha.not h.hasC (by simp [cacheUs]))).trans h.head, h.dur.keepA hf (ha.sub (by simp [cacheUs])), h.con.keepA hf (ha.sub (by simp [cacheUs])), h.ne, owns_frame' h.row hf (ha.sub (by simp [cacheUs])), h.ops.keepA hf (ha.sub (by simp [cacheUs])), h.le⟩
theorem c0 (h : CacheAt w N pc p1 q1 n1 p2 q2 n2 v xs d l) : w.cell? ⟨pc, 0, none⟩ = some (.pointer (some ⟨p1, 0, none⟩)) := by rw [cell_of_row w pc _ _ _ _ h.head]; rfl
theorem c1 (h : CacheAt w N pc p1 q1 n1 p2 q2 n2 v xs d l) : w.cell? ⟨pc, 1, none⟩ = some (.pointer (some ⟨p2, 0, none⟩)) := by rw [cell_of_row w pc _ _ _ _ h.head]; rfl
theorem c2 (h : CacheAt w N pc p1 q1 n1 p2 q2 n2 v xs d l) : w.cell? ⟨pc, 2, none⟩ = some v := by rw [cell_of_row w pc _ _ _ _ h.head]; rfl
theorem mono (h : CacheAt w N pc p1 q1 n1 p2 q2 n2 v xs d l) (hN : M ≤ N) : CacheAt w M pc p1 q1 n1 p2 q2 n2 v xs d l :=
  ⟨h.head, h.dur, h.con, h.ne, owns_mono hN h.row, h.ops, by have := h.le; omega⟩
/-- The row of pending operations is nil or begins a block. -/
theorem form (h : CacheAt w N pc p1 q1 n1 p2 q2 n2 v xs d l) : ∃ A c, v = .slice A l.length c ∧ CellsRd w A xs ∧ (A = none → l.length = 0) := by
  rcases h.row.2 with ⟨rfl, hn⟩ | ⟨g, cap, cur, rfl, _, hg, _⟩
  · exact ⟨none, 0, by rw [hn], (fun a ha => by cases ha), fun _ => hn⟩
  · exact ⟨_, _, rfl, (fun a ha j u hu => by obtain rfl := Option.some.inj ha; exact h.row.cells (g := g) rfl j u hu), (fun h => by cases h)⟩
end CacheAt
theorem IsCache.keepA {S : Nat → Prop} {w w' : World} {N pc : Nat} {d : Med} {l : List Opn} (h : IsCache w N pc d l) (hf : Fr S w w') (ha : Avoid S w cacheUs) : IsCache w' N pc d l := by
  obtain ⟨_, _, _, _, _, _, _, _, h⟩ := h
  exact ⟨_, _, _, _, _, _, _, _, h.keepA hf ha⟩
theorem IsCache.frT {w w' : World} {N M pc : Nat} {Ts : List TypeId} {d : Med} {l : List Opn} (h : IsCache w N pc d l) (hf : FrT M Ts w w') (ha : Ts.all (fun T => !cacheUs.contains T) = true) : IsCache w' N pc d l := h.keepA hf (avoid_TS ha)
theorem IsCache.below {w w' : World} {N pc : Nat} {d : Med} {l : List Opn} (h : IsCache w N pc d l) (hb : Below w.heap.size w w') : IsCache w' N pc d l := h.keepA (Fr.ofBelow hb _) avoid_none
theorem IsCache.mono {w : World} {N M pc : Nat} {d : Med} {l : List Opn} (h : IsCache w N pc d l) (hN : M ≤ N) : IsCache w M pc d l := by
  obtain ⟨_, _, _, _, _, _, _, _, h⟩ := h
  exact ⟨_, _, _, _, _, _, _, _, h.mono hN⟩
theorem IsCache.lt {w : World} {N pc : Nat} {d : Med} {l : List Opn} (h : IsCache w N pc d l) : pc < w.heap.size := by
  obtain ⟨_, _, _, _, _, _, _, _, h⟩ := h
  exact h.hasC.lt
theorem IsCache.good {w : World} {N pc : Nat} {d : Med} {l : List Opn} (h : IsCache w N pc d l) : d.Good := by
  obtain ⟨_, _, _, _, _, _, _, _, h⟩ := h
  exact h.dur.good

/-- The cells of the reference's pending operations. -/
def OpXs (w : World) (xs : List Value) (l : List Opn) : Prop :=
  ∀ (i : Nat) (o : Opn), l[i]? = some o → ∃ A c, xs[i * 3]? = some (.bool o.er) ∧ xs[i * 3 + 1]? = some (.int .i64 o.at_) ∧ xs[i * 3 + 2]? = some (.slice A o.bs.length c) ∧ BytesT w A o.bs
theorem OpXs.keepA {S : Nat → Prop} {w w' : World} {xs : List Value} {l : List Opn} (h : OpXs w xs l) (hf : Fr S w w') (ha : Avoid S w [5]) : OpXs w' xs l := fun i o ho => by
  obtain ⟨A, c, h1, h2, h3, h4⟩ := h i o ho
  exact ⟨A, c, h1, h2, h3, h4.keep hf (fun k hs hh => ha k _ hs (by simp) hh)⟩
theorem OpXs.one {w : World} {xs : List Value} {l : List Opn} (h : OpXs w xs l) (hx : xs.length = l.length * 3) : ∀ u ∈ xs, u.oneCell' = true := by
  intro u hu
  obtain ⟨j, hj, rfl⟩ := List.getElem_of_mem hu
  have hi : j / 3 < l.length := by omega
  obtain ⟨A, c, h1, h2, h3, _⟩ := h (j / 3) _ (List.getElem?_eq_getElem hi)
  have hm : j = j / 3 * 3 ∨ j = j / 3 * 3 + 1 ∨ j = j / 3 * 3 + 2 := by omega
  rcases hm with e | e | e
  · rw [← e, List.getElem?_eq_getElem hj] at h1
    rw [Option.some.inj h1]; rfl
  · rw [← e, List.getElem?_eq_getElem hj] at h2
    rw [Option.some.inj h2]; rfl
  · rw [← e, List.getElem?_eq_getElem hj] at h3
    rw [Option.some.inj h3]; rfl
theorem OpXs.snoc {w : World} {xs : List Value} {l : List Opn} (h : OpXs w xs l) (hx : xs.length = l.length * 3) {o : Opn} {A : Option Addr} {c : Nat} (hb : BytesT w A o.bs) : OpXs w (xs ++ [.bool o.er, .int .i64 o.at_, .slice A o.bs.length c]) (l ++ [o]) := by
  intro i y hy
  have hlt := (List.getElem?_eq_some_iff.1 hy).1
  simp at hlt
  by_cases e : i < l.length
  · rw [List.getElem?_append_left e] at hy
    obtain ⟨A', c', h1, h2, h3, h4⟩ := h i y hy
    exact ⟨A', c', by rw [List.getElem?_append_left (by omega)]; exact h1, by rw [List.getElem?_append_left (by omega)]; exact h2, by rw [List.getElem?_append_left (by omega)]; exact h3, h4⟩
  · have : i = l.length := by omega
    subst this
    simp at hy
    subst hy
    refine ⟨A, c, ?_, ?_, ?_, hb⟩
    · rw [List.getElem?_append_right (by omega)]; simp [hx]
    · rw [List.getElem?_append_right (by omega), show l.length * 3 + 1 - xs.length = 1 by omega]; rfl
    · rw [List.getElem?_append_right (by omega), show l.length * 3 + 2 - xs.length = 2 by omega]; rfl
abbrev rcacheUs : List TypeId := [90, 94, 123, 115, 5]
abbrev rcacheTs : List TypeId := [90, 123]
/-- A cache of the reference, all of whose blocks that turn lie from N on. -/
structure RCacheAt (w : World) (N pd p q n : Nat) (v : Value) (xs : List Value) (d : Med) (l : List Opn) : Prop where
  head : w.heap[pd]? = some (.cells #[.pointer (some ⟨p, 0, none⟩), v] 90 (0, 0))
  med : IsRef w p q n d
  row : w.ownsRow 0 115 3 v l.length xs
  ops : OpXs w xs l
  short : ∀ o ∈ l, o.bs.length ≤ 140737488351232
  le : N ≤ pd ∧ N ≤ p ∧ N ≤ q
def IsRCache (w : World) (N pd : Nat) (d : Med) (l : List Opn) : Prop := ∃ p q n v xs, RCacheAt w N pd p q n v xs d l
namespace RCacheAt
variable {w w' : World} {N M pd p q n : Nat} {v : Value} {xs : List Value} {d : Med} {l : List Opn}
theorem hasC (h : RCacheAt w N pd p q n v xs d l) : HasT w pd 90 := ⟨_, _, h.head⟩
theorem keepA {S : Nat → Prop} (h : RCacheAt w N pd p q n v xs d l) (hf : Fr S w w') (ha : Avoid S w rcacheUs) : RCacheAt w' N pd p q n v xs d l :=
  ⟨(hf.block pd h.hasC.lt (ha.not h.hasC (by simp [rcacheUs]))).trans h.head, h.med.keepA hf (ha.sub (by simp [rcacheUs])), owns_frame' h.row hf (ha.sub (by simp [rcacheUs])), h.ops.keepA hf (ha.sub (by simp [rcacheUs])), h.short, h.le⟩
theorem c0 (h : RCacheAt w N pd p q n v xs d l) : w.cell? ⟨pd, 0, none⟩ = some (.pointer (some ⟨p, 0, none⟩)) := by rw [cell_of_row w pd _ _ _ _ h.head]; rfl
theorem c1 (h : RCacheAt w N pd p q n v xs d l) : w.cell? ⟨pd, 1, none⟩ = some v := by rw [cell_of_row w pd _ _ _ _ h.head]; rfl
theorem mono (h : RCacheAt w N pd p q n v xs d l) (hN : M ≤ N) : RCacheAt w M pd p q n v xs d l := ⟨h.head, h.med, h.row, h.ops, h.short, by have := h.le; omega⟩
theorem form (h : RCacheAt w N pd p q n v xs d l) : ∃ A c, v = .slice A l.length c ∧ CellsRd w A xs ∧ (A = none → l.length = 0) := by
  rcases h.row.2 with ⟨rfl, hn⟩ | ⟨g, cap, cur, rfl, _, hg, _⟩
  · exact ⟨none, 0, by rw [hn], (fun a ha => by cases ha), fun _ => hn⟩
  · exact ⟨_, _, rfl, (fun a ha j u hu => by obtain rfl := Option.some.inj ha; exact h.row.cells (g := g) rfl j u hu), (fun h => by cases h)⟩
/-- The cells of the i-th pending operation. -/
theorem opAt (h : RCacheAt w N pd p q n v xs d l) {i : Nat} {o : Opn} (ho : l[i]? = some o) : ∃ g c A' c', v = .slice (some ⟨g, 0, none⟩) l.length c ∧ HasT w g 115 ∧
    w.cell? ⟨g, i * 3, none⟩ = some (.bool o.er) ∧ w.cell? ⟨g, i * 3 + 1, none⟩ = some (.int .i64 o.at_) ∧ w.cell? ⟨g, i * 3 + 2, none⟩ = some (.slice A' o.bs.length c') ∧ BytesT w A' o.bs := by
  have hlt := (List.getElem?_eq_some_iff.1 ho).1
  obtain ⟨A', c', h1, h2, h3, h4⟩ := h.ops i o ho
  have hx := h.row.1
  rcases h.row.2 with ⟨_, hn⟩ | ⟨g, cap, cur, rfl, _, hg, _⟩
  · omega
  · refine ⟨g, cap, A', c', rfl, ⟨_, _, hg⟩, ?_, ?_, ?_, h4⟩
    · rw [h.row.cellAt _ (by omega)]; exact h1
    · rw [h.row.cellAt _ (by omega)]; exact h2
    · rw [h.row.cellAt _ (by omega)]; exact h3
end RCacheAt
theorem IsRCache.keepA {S : Nat → Prop} {w w' : World} {N pd : Nat} {d : Med} {l : List Opn} (h : IsRCache w N pd d l) (hf : Fr S w w') (ha : Avoid S w rcacheUs) : IsRCache w' N pd d l := by
  obtain ⟨_, _, _, _, _, h⟩ := h
  exact ⟨_, _, _, _, _, h.keepA hf ha⟩
theorem IsRCache.frT {w w' : World} {N M pd : Nat} {Ts : List TypeId} {d : Med} {l : List Opn} (h : IsRCache w N pd d l) (hf : FrT M Ts w w') (ha : Ts.all (fun T => !rcacheUs.contains T) = true) : IsRCache w' N pd d l := h.keepA hf (avoid_TS ha)
theorem IsRCache.below {w w' : World} {N pd : Nat} {d : Med} {l : List Opn} (h : IsRCache w N pd d l) (hb : Below w.heap.size w w') : IsRCache w' N pd d l := h.keepA (Fr.ofBelow hb _) avoid_none
theorem IsRCache.mono {w : World} {N M pd : Nat} {d : Med} {l : List Opn} (h : IsRCache w N pd d l) (hN : M ≤ N) : IsRCache w M pd d l := by
  obtain ⟨_, _, _, _, _, h⟩ := h
  exact ⟨_, _, _, _, _, h.mono hN⟩
theorem IsRCache.lt {w : World} {N pd : Nat} {d : Med} {l : List Opn} (h : IsRCache w N pd d l) : pd < w.heap.size := by
  obtain ⟨_, _, _, _, _, h⟩ := h
  exact h.hasC.lt
theorem IsRCache.le {w : World} {N pd : Nat} {d : Med} {l : List Opn} (h : IsRCache w N pd d l) : N ≤ w.heap.size := by
  obtain ⟨_, _, _, _, _, h⟩ := h
  have := h.hasC.lt
  have := h.le
  omega
theorem cacheTs_rcache : cacheTs.all (fun T => !rcacheUs.contains T) = true := by decide
theorem rcacheTs_cache : rcacheTs.all (fun T => !cacheUs.contains T) = true := by decide

/-- The pending operations behind one more. -/
def push (d : Med) (l : List Opn) (o : Opn) : List Opn := if (d.ops l).opE o = 0 then l ++ [o] else l
theorem Med.op_bad {m : Med} {o : Opn} (h : m.opE o ≠ 0) : m.op o = m := by
  unfold Med.op Med.opE at *
  cases ho : o.er
  · rw [ho] at h; simp only [Bool.false_eq_true, if_false] at h ⊢; unfold Med.write; rw [if_neg h]
  · rw [ho] at h; simp only [if_true] at h ⊢; unfold Med.erase; rw [if_neg h]
theorem push_ops (d : Med) (l : List Opn) (o : Opn) : d.ops (push d l o) = (d.ops l).op o := by
  unfold push
  split
  · exact Med.ops_snoc _ _ _
  · rename_i h; exact (Med.op_bad h).symm
theorem push_len (d : Med) (l : List Opn) (o : Opn) : (push d l o).length ≤ l.length + 1 := by unfold push; split <;> simp
theorem push_ok {d : Med} {l : List Opn} {o : Opn} (h : (d.ops l).opE o = 0) : push d l o = l ++ [o] := by unfold push; rw [if_pos h]
theorem push_bad {d : Med} {l : List Opn} {o : Opn} (h : (d.ops l).opE o ≠ 0) : push d l o = l := by unfold push; rw [if_neg h]
/-- How many operations a cut lets take effect. -/
def keepN (k : Int) (l : List Opn) : Nat := min k.toNat l.length
theorem Med.ops_append (m : Med) (l k : List Opn) : m.ops (l ++ k) = (m.ops l).ops k := by unfold Med.ops; rw [List.foldl_append]
end Go.Proofs.YtmloiifnadaaoaaGreat
