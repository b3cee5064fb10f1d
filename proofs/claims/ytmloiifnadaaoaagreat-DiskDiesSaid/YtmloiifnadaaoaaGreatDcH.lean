/- Caches in memory, told apart by the blocks that are theirs (a predicate G in the place of 'from block N on'). -/
import Derived.Test.YtmloiifnadaaoaaGreatCchW1
import Derived.Test.YtmloiifnadaaoaaGreatRCchW1
namespace Go.Proofs.YtmloiifnadaaoaaGreat
open Go.RowKit
set_option linter.unusedVariables false

/-- Blocks of G that are rows of one of the types Ts. -/
def TG (G : Nat → Prop) (Ts : List TypeId) (w : World) (k : Nat) : Prop := G k ∧ ∃ T, T ∈ Ts ∧ HasT w k T
theorem avoid_TG {G : Nat → Prop} {Ts Us : List TypeId} {w : World} (hd : Ts.all (fun T => !Us.contains T) = true) : Avoid (TG G Ts w) w Us := by
  rintro k T ⟨_, T', h1, h2⟩ hT hk
  have hne : T' ≠ T := by
    rintro rfl
    have := List.all_eq_true.1 hd T' h1
    simp at this
    exact this hT
  exact h2.ne hk hne rfl
/-- From w to w' only rows of the types Ts among the blocks of G have turned. -/
def FrG (G : Nat → Prop) (Ts : List TypeId) (w w' : World) : Prop := Fr (TG G Ts w) w w'
namespace FrG
variable {G H : Nat → Prop} {Ts Us : List TypeId} {w w' w'' : World}
theorem refl (G : Nat → Prop) (Ts : List TypeId) (w : World) : FrG G Ts w w := Fr.refl _ _
theorem trans (h : FrG G Ts w w') (k : FrG G Ts w' w'') : FrG G Ts w w'' := by
  refine Fr.transW (T := TG G Ts w') h k ?_
  rintro i hi ⟨h1, T, h2, h3⟩
  by_cases hS : TG G Ts w i
  · exact hS
  · exact ⟨h1, T, h2, h3.back h hi hS⟩
theorem ofBelow (h : Below w.heap.size w w') : FrG G Ts w w' := Fr.ofBelow h _
theorem call (h : FrG G Ts w w') (hb : Below w'.heap.size w' w'') : FrG G Ts w w'' := h.trans (ofBelow hb)
theorem mono (h : FrG G Ts w w') (hN : ∀ k, k < w.heap.size → G k → H k) (hs : Ts.all (fun T => Us.contains T) = true) : FrG H Us w w' :=
  Fr.mono h (by
    rintro k hk ⟨h1, T, h2, h3⟩
    exact ⟨hN k hk h1, T, by have := List.all_eq_true.1 hs T h2; simpa using this, h3⟩)
theorem below {B : Nat} (h : FrG G Ts w w') (hB : B ≤ w.heap.size) (hG : ∀ k, G k → B ≤ k) : Below B w w' := Fr.below h hB (fun k hk hs => by have := hG k hs.1; omega)
theorem ofOne {q : Nat} {T : TypeId} (h : Fr (· = q) w w') (hq : HasT w q T) (hT : Ts.contains T = true) (hN : G q) : FrG G Ts w w' :=
  Fr.mono h (by rintro k hk rfl; exact ⟨hN, T, by simpa using hT, hq⟩)
theorem size (h : FrG G Ts w w') : w.heap.size ≤ w'.heap.size := Fr.size h
theorem drew (h : FrG G Ts w w') : FrG G Ts w w'.drew := h.call (Below.refl _ _).drew
theorem grown {row : Option Nat} (h : FrG G Ts w w') (hg : w'.grownBy w'' row) (hr : ∀ k, row = some k → TG G Ts w' k) : FrG G Ts w w'' :=
  h.trans (Fr.grown (Fr.refl _ _) hg (fun k hk => .inl (hr k hk)))
end FrG

/-- The variable of bytes that a function value captured is in G. -/
def CapIn (G : Nat → Prop) (x : Value) : Prop := ∀ n p0 b, x = .func n #[] #[p0, .pointer (some ⟨b, 0, none⟩)] → G b
theorem OperIs.box {w : World} {x : Value} {o : Opn} (h : OperIs w x o) {n : Fn} {p0 : Value} {b : Nat} (hx : x = .func n #[] #[p0, .pointer (some ⟨b, 0, none⟩)]) : HasT w b 53 := by
  subst hx
  rcases h with ⟨_, b1, h1, _⟩ | ⟨_, _, a, b2, A, c, h1, _, h4, _⟩
  · simp at h1
  · simp at h1
    obtain ⟨_, _, rfl⟩ := h1
    exact h4
theorem Opers.mem {w : World} {xs : List Value} {l : List Opn} (h : Opers w xs l) (hx : xs.length = l.length * 1) {x : Value} (hm : x ∈ xs) : ∃ o, OperIs w x o := by
  obtain ⟨j, hj, rfl⟩ := List.getElem_of_mem hm
  obtain ⟨y, h1, h2⟩ := h j _ (List.getElem?_eq_getElem (by omega))
  rw [List.getElem?_eq_getElem hj] at h1
  rw [Option.some.inj h1]
  exact ⟨_, h2⟩
theorem OperIs.keepX {w w' : World} {b2 : Nat} {v : Value} {o : Opn} {G : Nat → Prop} (h : OperIs w v o) (hf : Fr (· = b2) w w') (hT : HasT w b2 53) (hn : ¬ G b2) (hc : CapIn G v) : OperIs w' v o := by
  have hA : Avoid (· = b2) w [3, 5] := avoid_one hT (by decide)
  rcases h with ⟨h1, b, h2, h3, h4⟩ | ⟨h1, h0, a, b, A, c, h2, h3, h4, h5, h6, h7⟩
  · exact .inl ⟨h1, b, h2, h3.keep hf (hA.not h3 (by simp)), hf.cell h4 (hA.not h3 (by simp))⟩
  · have hb : ¬ b = b2 := fun e => hn (e ▸ hc _ _ b h2)
    exact .inr ⟨h1, h0, a, b, A, c, h2, h3.keep hf (hA.not h3 (by simp)), h4.keep hf hb, hf.cell h5 (hA.not h3 (by simp)), hf.cell h6 hb, h7.keep hf (fun k hs hh => hA k _ hs (by simp) hh)⟩

/-- A cache of the program whose blocks that turn are in G. -/
structure GacheAt (w : World) (G : Nat → Prop) (pc p1 q1 n1 p2 q2 n2 : Nat) (v : Value) (xs : List Value) (d : Med) (l : List Opn) : Prop where
  head : w.heap[pc]? = some (.cells #[.pointer (some ⟨p1, 0, none⟩), .pointer (some ⟨p2, 0, none⟩), v] 118 (0, 0))
  dur : IsMed w p1 q1 n1 d
  con : IsMed w p2 q2 n2 (d.ops l)
  ne : q1 ≠ q2
  row : w.ownsRow 0 120 1 v l.length xs
  ops : Opers w xs l
  own : ∀ k, v.ownBlock = some k → G k
  le : G pc ∧ G q1 ∧ G q2
  capt : ∀ x, x ∈ xs → CapIn G x
def IsGache (w : World) (G : Nat → Prop) (pc : Nat) (d : Med) (l : List Opn) : Prop := ∃ p1 q1 n1 p2 q2 n2 v xs, GacheAt w G pc p1 q1 n1 p2 q2 n2 v xs d l
namespace GacheAt
variable {w w' : World} {G H : Nat → Prop} {pc p1 q1 n1 p2 q2 n2 : Nat} {v : Value} {xs : List Value} {d : Med} {l : List Opn}
theorem hasC (h : GacheAt w G pc p1 q1 n1 p2 q2 n2 v xs d l) : HasT w pc 118 := ⟨_, _, h.head⟩
/-- What is read of a cache does not ask whose it is. -/
theorem toC (h : GacheAt w G pc p1 q1 n1 p2 q2 n2 v xs d l) : CacheAt w 0 pc p1 q1 n1 p2 q2 n2 v xs d l := ⟨h.head, h.dur, h.con, h.ne, h.row, h.ops, by omega⟩
theorem ofC {N : Nat} (h : CacheAt w N pc p1 q1 n1 p2 q2 n2 v xs d []) (hG : ∀ k, N ≤ k → G k) : GacheAt w G pc p1 q1 n1 p2 q2 n2 v xs d [] :=
  ⟨h.head, h.dur, h.con, h.ne, owns_mono (Nat.zero_le _) h.row, h.ops, fun k hk => hG k (owns_own h.row k hk).1, ⟨hG _ h.le.1, hG _ h.le.2.2.1, hG _ h.le.2.2.2.2⟩, fun x hx => by
    have := h.row.1
    rw [List.eq_nil_of_length_eq_zero (show xs.length = 0 by simpa using this)] at hx
    cases hx⟩
theorem keepA {S : Nat → Prop} (h : GacheAt w G pc p1 q1 n1 p2 q2 n2 v xs d l) (hf : Fr S w w') (ha : Avoid S w cacheUs) : GacheAt w' G pc p1 q1 n1 p2 q2 n2 v xs d l :=
  ⟨(hf.block pc h.hasC.lt (ha.not h.hasC (by simp [cacheUs]))).trans h.head, h.dur.keepA hf (ha.sub (by simp [cacheUs])), h.con.keepA hf (ha.sub (by simp [cacheUs])), h.ne, owns_frame' h.row hf (ha.sub (by simp [cacheUs])), h.ops.keepA hf (ha.sub (by simp [cacheUs])), h.own, h.le, h.capt⟩
/-- It stands where what turned is none of its blocks, and no row of the types that never turn. -/
theorem keepF {S : Nat → Prop} (h : GacheAt w G pc p1 q1 n1 p2 q2 n2 v xs d l) (hf : Fr S w w') (hS : ∀ k, k < w.heap.size → G k → ¬ S k) (ha : Avoid S w [126, 5, 3, 53]) : GacheAt w' G pc p1 q1 n1 p2 q2 n2 v xs d l := by
  refine ⟨(hf.block pc h.hasC.lt (hS _ h.hasC.lt h.le.1)).trans h.head, h.dur.keep hf (ha.not h.dur.hasP (by simp)) (hS _ h.dur.hasQ.lt h.le.2.1) (fun k hs hh => ha k _ hs (by simp) hh), h.con.keep hf (ha.not h.con.hasP (by simp)) (hS _ h.con.hasQ.lt h.le.2.2) (fun k hs hh => ha k _ hs (by simp) hh), h.ne, ?_, h.ops.keepA hf (ha.sub (by simp)), h.own, h.le, h.capt⟩
  refine ⟨h.row.1, ?_⟩
  rcases h.row.2 with h2 | ⟨g, c, cur, hv, hb, hg, hr⟩
  · exact .inl h2
  · have hlt := (Array.getElem?_eq_some_iff.1 hg).1
    exact .inr ⟨g, c, cur, hv, hb, (hf.block g hlt (hS g hlt (h.own g (by rw [hv]; rfl)))).trans hg, hr⟩
theorem mono (h : GacheAt w G pc p1 q1 n1 p2 q2 n2 v xs d l) (hG : ∀ k, k < w.heap.size → G k → H k) : GacheAt w H pc p1 q1 n1 p2 q2 n2 v xs d l :=
  ⟨h.head, h.dur, h.con, h.ne, h.row, h.ops, fun k hk => hG k (owns_own h.row k hk).2.lt (h.own k hk), ⟨hG _ h.hasC.lt h.le.1, hG _ h.dur.hasQ.lt h.le.2.1, hG _ h.con.hasQ.lt h.le.2.2⟩, fun x hx n p0 b e => by
    obtain ⟨o, ho⟩ := h.ops.mem h.row.1 hx
    exact hG b (ho.box e).lt (h.capt x hx n p0 b e)⟩
/-- It stands where a variable of bytes turned that is not in G. -/
theorem keepX {b2 : Nat} (h : GacheAt w G pc p1 q1 n1 p2 q2 n2 v xs d l) (hf : Fr (· = b2) w w') (hT : HasT w b2 53) (hn : ¬ G b2) : GacheAt w' G pc p1 q1 n1 p2 q2 n2 v xs d l := by
  have ha : Avoid (· = b2) w [118, 126, 133, 5, 120, 3] := avoid_one hT (by decide)
  refine ⟨(hf.block pc h.hasC.lt (ha.not h.hasC (by simp))).trans h.head, h.dur.keepA hf (ha.sub (by simp)), h.con.keepA hf (ha.sub (by simp)), h.ne, owns_frame' h.row hf (ha.sub (by simp)), ?_, h.own, h.le, h.capt⟩
  intro i o ho
  obtain ⟨x, h1, h2⟩ := h.ops i o ho
  exact ⟨x, h1, h2.keepX hf hT hn (h.capt x (List.mem_of_getElem? h1))⟩
theorem c0 (h : GacheAt w G pc p1 q1 n1 p2 q2 n2 v xs d l) : w.cell? ⟨pc, 0, none⟩ = some (.pointer (some ⟨p1, 0, none⟩)) := by rw [cell_of_row w pc _ _ _ _ h.head]; rfl
theorem c1 (h : GacheAt w G pc p1 q1 n1 p2 q2 n2 v xs d l) : w.cell? ⟨pc, 1, none⟩ = some (.pointer (some ⟨p2, 0, none⟩)) := by rw [cell_of_row w pc _ _ _ _ h.head]; rfl
theorem c2 (h : GacheAt w G pc p1 q1 n1 p2 q2 n2 v xs d l) : w.cell? ⟨pc, 2, none⟩ = some v := by rw [cell_of_row w pc _ _ _ _ h.head]; rfl
theorem form (h : GacheAt w G pc p1 q1 n1 p2 q2 n2 v xs d l) : ∃ A c, v = .slice A l.length c ∧ CellsRd w A xs ∧ (A = none → l.length = 0) := h.toC.form
end GacheAt
namespace IsGache
variable {w w' : World} {G H : Nat → Prop} {pc : Nat} {d : Med} {l : List Opn}
theorem toC (h : IsGache w G pc d l) : IsCache w 0 pc d l := by
  obtain ⟨_, _, _, _, _, _, _, _, h⟩ := h
  exact ⟨_, _, _, _, _, _, _, _, h.toC⟩
theorem keepX {b2 : Nat} (h : IsGache w G pc d l) (hf : Fr (· = b2) w w') (hT : HasT w b2 53) (hn : ¬ G b2) : IsGache w' G pc d l := by
  obtain ⟨_, _, _, _, _, _, _, _, h⟩ := h
  exact ⟨_, _, _, _, _, _, _, _, h.keepX hf hT hn⟩
theorem ofC {N : Nat} (h : IsCache w N pc d []) (hG : ∀ k, N ≤ k → G k) : IsGache w G pc d [] := by
  obtain ⟨_, _, _, _, _, _, _, _, h⟩ := h
  exact ⟨_, _, _, _, _, _, _, _, GacheAt.ofC h hG⟩
theorem keepA {S : Nat → Prop} (h : IsGache w G pc d l) (hf : Fr S w w') (ha : Avoid S w cacheUs) : IsGache w' G pc d l := by
  obtain ⟨_, _, _, _, _, _, _, _, h⟩ := h
  exact ⟨_, _, _, _, _, _, _, _, h.keepA hf ha⟩
theorem keepF {S : Nat → Prop} (h : IsGache w G pc d l) (hf : Fr S w w') (hS : ∀ k, k < w.heap.size → G k → ¬ S k) (ha : Avoid S w [126, 5, 3, 53]) : IsGache w' G pc d l := by
  obtain ⟨_, _, _, _, _, _, _, _, h⟩ := h
  exact ⟨_, _, _, _, _, _, _, _, h.keepF hf hS ha⟩
theorem below (h : IsGache w G pc d l) (hb : Below w.heap.size w w') : IsGache w' G pc d l := h.keepA (Fr.ofBelow hb _) avoid_none
theorem drew (h : IsGache w G pc d l) : IsGache w.drew G pc d l := h.below (Below.refl _ _).drew
theorem mono (h : IsGache w G pc d l) (hG : ∀ k, k < w.heap.size → G k → H k) : IsGache w H pc d l := by
  obtain ⟨_, _, _, _, _, _, _, _, h⟩ := h
  exact ⟨_, _, _, _, _, _, _, _, h.mono hG⟩
end IsGache

/-- A cache of the reference whose blocks that turn are in G. -/
structure RGacheAt (w : World) (G : Nat → Prop) (pd p q n : Nat) (v : Value) (xs : List Value) (d : Med) (l : List Opn) : Prop where
  head : w.heap[pd]? = some (.cells #[.pointer (some ⟨p, 0, none⟩), v] 90 (0, 0))
  med : IsRef w p q n d
  row : w.ownsRow 0 115 3 v l.length xs
  ops : OpXs w xs l
  short : ∀ o ∈ l, o.bs.length ≤ 140737488351232
  le : G pd ∧ G q
def IsRGache (w : World) (G : Nat → Prop) (pd : Nat) (d : Med) (l : List Opn) : Prop := ∃ p q n v xs, RGacheAt w G pd p q n v xs d l
namespace RGacheAt
variable {w w' : World} {G H : Nat → Prop} {pd p q n : Nat} {v : Value} {xs : List Value} {d : Med} {l : List Opn}
theorem hasC (h : RGacheAt w G pd p q n v xs d l) : HasT w pd 90 := ⟨_, _, h.head⟩
theorem toC (h : RGacheAt w G pd p q n v xs d l) : RCacheAt w 0 pd p q n v xs d l := ⟨h.head, h.med, h.row, h.ops, h.short, by omega⟩
theorem ofC {N : Nat} (h : RCacheAt w N pd p q n v xs d l) (hG : ∀ k, N ≤ k → G k) : RGacheAt w G pd p q n v xs d l := ⟨h.head, h.med, h.row, h.ops, h.short, hG _ h.le.1, hG _ h.le.2.2⟩
theorem keepA {S : Nat → Prop} (h : RGacheAt w G pd p q n v xs d l) (hf : Fr S w w') (ha : Avoid S w rcacheUs) : RGacheAt w' G pd p q n v xs d l :=
  ⟨(hf.block pd h.hasC.lt (ha.not h.hasC (by simp [rcacheUs]))).trans h.head, h.med.keepA hf (ha.sub (by simp [rcacheUs])), owns_frame' h.row hf (ha.sub (by simp [rcacheUs])), h.ops.keepA hf (ha.sub (by simp [rcacheUs])), h.short, h.le⟩
theorem keepF {S : Nat → Prop} (h : RGacheAt w G pd p q n v xs d l) (hf : Fr S w w') (hS : ∀ k, k < w.heap.size → G k → ¬ S k) (ha : Avoid S w [94, 115, 5]) : RGacheAt w' G pd p q n v xs d l :=
  ⟨(hf.block pd h.hasC.lt (hS _ h.hasC.lt h.le.1)).trans h.head, h.med.keep hf (ha.not h.med.hasP (by simp)) (hS _ h.med.hasQ.lt h.le.2), owns_frame' h.row hf (ha.sub (by simp)), h.ops.keepA hf (ha.sub (by simp)), h.short, h.le⟩
theorem mono (h : RGacheAt w G pd p q n v xs d l) (hG : ∀ k, k < w.heap.size → G k → H k) : RGacheAt w H pd p q n v xs d l := ⟨h.head, h.med, h.row, h.ops, h.short, hG _ h.hasC.lt h.le.1, hG _ h.med.hasQ.lt h.le.2⟩
theorem c0 (h : RGacheAt w G pd p q n v xs d l) : w.cell? ⟨pd, 0, none⟩ = some (.pointer (some ⟨p, 0, none⟩)) := h.toC.c0
theorem c1 (h : RGacheAt w G pd p q n v xs d l) : w.cell? ⟨pd, 1, none⟩ = some v := h.toC.c1
end RGacheAt
namespace IsRGache
variable {w w' : World} {G H : Nat → Prop} {pd : Nat} {d : Med} {l : List Opn}
theorem toC (h : IsRGache w G pd d l) : IsRCache w 0 pd d l := by
  obtain ⟨_, _, _, _, _, h⟩ := h
  exact ⟨_, _, _, _, _, h.toC⟩
theorem ofC {N : Nat} (h : IsRCache w N pd d l) (hG : ∀ k, N ≤ k → G k) : IsRGache w G pd d l := by
  obtain ⟨_, _, _, _, _, h⟩ := h
  exact ⟨_, _, _, _, _, RGacheAt.ofC h hG⟩
theorem keepA {S : Nat → Prop} (h : IsRGache w G pd d l) (hf : Fr S w w') (ha : Avoid S w rcacheUs) : IsRGache w' G pd d l := by
  obtain ⟨_, _, _, _, _, h⟩ := h
  exact ⟨_, _, _, _, _, h.keepA hf ha⟩
theorem keepF {S : Nat → Prop} (h : IsRGache w G pd d l) (hf : Fr S w w') (hS : ∀ k, k < w.heap.size → G k → ¬ S k) (ha : Avoid S w [94, 115, 5]) : IsRGache w' G pd d l := by
  obtain ⟨_, _, _, _, _, h⟩ := h
  exact ⟨_, _, _, _, _, h.keepF hf hS ha⟩
theorem below (h : IsRGache w G pd d l) (hb : Below w.heap.size w w') : IsRGache w' G pd d l := h.keepA (Fr.ofBelow hb _) avoid_none
theorem drew (h : IsRGache w G pd d l) : IsRGache w.drew G pd d l := h.below (Below.refl _ _).drew
theorem mono (h : IsRGache w G pd d l) (hG : ∀ k, k < w.heap.size → G k → H k) : IsRGache w H pd d l := by
  obtain ⟨_, _, _, _, _, h⟩ := h
  exact ⟨_, _, _, _, _, h.mono hG⟩
end IsRGache
end Go.Proofs.YtmloiifnadaaoaaGreat
