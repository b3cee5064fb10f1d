/- Disks and power supplies in memory. -/
import Derived.Test.YtmloiifnadaaoaaGreatDskP
import Derived.Test.YtmloiifnadaaoaaGreatDcW
namespace Go.Proofs.YtmloiifnadaaoaaGreat
open Go.RowKit
set_option linter.unusedVariables false

/-- Faults in a block of faults. -/
def FltsT (w : World) (A : Option Addr) (l : List Flt) : Prop :=
  (A = none → l.length = 0) ∧ (l = [] ∨ ∃ g off, A = some ⟨g, off, none⟩ ∧ HasT w g 64 ∧ ∀ i f, l[i]? = some f → FltB w g (off + i * 3) f)
theorem FltsT.rd {w : World} {A : Option Addr} {l : List Flt} (h : FltsT w A l) : FltsRd w A l := h.2.imp id (fun ⟨g, off, h1, h2, h3⟩ => ⟨g, off, h1, h2.lt, h3⟩)
theorem FltsT.keepA {S : Nat → Prop} {w w' : World} {A : Option Addr} {l : List Flt} (h : FltsT w A l) (hf : Fr S w w') (ha : Avoid S w [64]) : FltsT w' A l := by
  refine ⟨h.1, h.2.imp id ?_⟩
  rintro ⟨g, off, h1, h2, h3⟩
  have hg := ha.not h2 (by simp)
  refine ⟨g, off, h1, h2.keep hf hg, fun i f hh => ?_⟩
  obtain ⟨k1, k2, k3⟩ := h3 i f hh
  exact ⟨hf.cell k1 hg, hf.cell k2 hg, hf.cell k3 hg⟩
theorem fltsT_of_row {w : World} {base : Nat} {v : Value} {l : List Flt} (h : w.ownsRow base 64 3 v l.length (fltVals l)) : ∃ A c, v = .slice A l.length c ∧ FltsT w A l := by
  rcases h.2 with ⟨rfl, hn⟩ | ⟨g, cap, cur, rfl, _, hg, _, _, _, _⟩
  · exact ⟨none, 0, by rw [hn], fun _ => hn, .inl (List.eq_nil_of_length_eq_zero hn)⟩
  · refine ⟨_, _, rfl, (fun h => by cases h), .inr ⟨g, 0, rfl, ⟨_, _, hg⟩, fun i f hf => ?_⟩⟩
    obtain ⟨e1, e2, e3⟩ := fltVals_get hf
    have c1 := h.cells (g := g) rfl _ _ e1
    have c2 := h.cells (g := g) rfl _ _ e2
    have c3 := h.cells (g := g) rfl _ _ e3
    rw [Addr.add_lit] at c1 c2 c3
    exact ⟨c1, by rw [Nat.add_assoc]; exact c2, by rw [Nat.add_assoc]; exact c3⟩

/-- A power supply of the program. -/
def IsPow (w : World) (G : Nat → Prop) (pp : Nat) (P : Pow) : Prop :=
  G pp ∧ ∃ x, w.heap[pp]? = some (.cells #[.bool P.off, .bool P.armed, .int .i64 x, .int .i64 P.fails] 83 (0, 0)) ∧ (P.armed = true → x = P.left)
namespace IsPow
variable {w w' : World} {G H : Nat → Prop} {pp : Nat} {P : Pow}
theorem hasP (h : IsPow w G pp P) : HasT w pp 83 := by obtain ⟨_, x, h, _⟩ := h; exact ⟨_, _, h⟩
theorem keepA {S : Nat → Prop} (h : IsPow w G pp P) (hf : Fr S w w') (ha : Avoid S w [83]) : IsPow w' G pp P := by
  have hn := ha.not h.hasP (by simp)
  have hlt := h.hasP.lt
  obtain ⟨h0, x, h1, h2⟩ := h
  exact ⟨h0, x, (hf.block pp hlt hn).trans h1, h2⟩
theorem below (h : IsPow w G pp P) (hb : Below w.heap.size w w') : IsPow w' G pp P := h.keepA (Fr.ofBelow hb _) avoid_none
theorem drew (h : IsPow w G pp P) : IsPow w.drew G pp P := h.below (Below.refl _ _).drew
theorem mono (h : IsPow w G pp P) (hG : G pp → H pp) : IsPow w H pp P := ⟨hG h.1, h.2⟩
theorem cells (h : IsPow w G pp P) : ∃ x, w.cell? ⟨pp, 0, none⟩ = some (.bool P.off) ∧ w.cell? ⟨pp, 1, none⟩ = some (.bool P.armed) ∧ w.cell? ⟨pp, 2, none⟩ = some (.int .i64 x) ∧ w.cell? ⟨pp, 3, none⟩ = some (.int .i64 P.fails) ∧ (P.armed = true → x = P.left) ∧ pp < w.heap.size ∧
    w.frozen? ⟨pp, 0, none⟩ = false ∧ w.frozen? ⟨pp, 1, none⟩ = false ∧ w.frozen? ⟨pp, 2, none⟩ = false ∧ w.frozen? ⟨pp, 3, none⟩ = false := by
  obtain ⟨h0, x, h1, h2⟩ := h
  exact ⟨x, by rw [cell_of_row _ pp _ _ _ _ h1]; rfl, by rw [cell_of_row _ pp _ _ _ _ h1]; rfl, by rw [cell_of_row _ pp _ _ _ _ h1]; rfl, by rw [cell_of_row _ pp _ _ _ _ h1]; rfl, h2, (Array.getElem?_eq_some_iff.1 h1).1, by simp [World.frozen?, h1], by simp [World.frozen?, h1], by simp [World.frozen?, h1], by simp [World.frozen?, h1]⟩
end IsPow
theorem fr_one (w : World) (p i : Nat) (v : Value) : Fr (· = p) w (w.setCell ⟨p, i, none⟩ v) := Fr.setCell (S := fun k => k = p) (p := ⟨p, i, none⟩) (Fr.refl _ w) (.inl rfl) v

abbrev diskTs : List TypeId := [118, 133, 120, 79, 83]
abbrev diskUs : List TypeId := [118, 126, 133, 5, 120, 3, 53, 79, 64]
/-- A disk of the program whose blocks that turn are in G. -/
structure DiskAt (w : World) (G : Nat → Prop) (pd pp pc : Nat) (A : Option Addr) (c : Nat) (D : Dsk) : Prop where
  head : w.heap[pd]? = some (.cells #[.int .i64 D.s0, .int .i64 D.s1, .int .i64 D.s2, .int .i64 D.s3, .int .i64 D.count, .int .i64 D.g.r, .int .i64 D.g.b, .int .i64 D.g.t, .int .i64 D.g.s, .int .i64 D.g.o,
    .pointer (some ⟨pc, 0, none⟩), .slice A D.fl.length c, .pointer (some ⟨pp, 0, none⟩), .int .i64 D.seen, .int .u64 D.key, .bool D.dead] 79 (0, 0))
  cache : IsGache w G pc D.c.d D.c.l
  flts : FltsT w A D.fl
  own : G pd
  geo : D.c.d.g = D.g
def IsDisk (w : World) (G : Nat → Prop) (pd pp : Nat) (D : Dsk) : Prop := ∃ pc A c, DiskAt w G pd pp pc A c D
namespace DiskAt
variable {w w' : World} {G H : Nat → Prop} {pd pp pc : Nat} {A : Option Addr} {c : Nat} {D : Dsk}
theorem hasD (h : DiskAt w G pd pp pc A c D) : HasT w pd 79 := ⟨_, _, h.head⟩
theorem keepA {S : Nat → Prop} (h : DiskAt w G pd pp pc A c D) (hf : Fr S w w') (ha : Avoid S w diskUs) : DiskAt w' G pd pp pc A c D :=
  ⟨(hf.block pd h.hasD.lt (ha.not h.hasD (by simp [diskUs]))).trans h.head, h.cache.keepA hf (ha.sub (by simp [diskUs, cacheUs])), h.flts.keepA hf (ha.sub (by simp [diskUs])), h.own, h.geo⟩
theorem keepF {S : Nat → Prop} (h : DiskAt w G pd pp pc A c D) (hf : Fr S w w') (hS : ∀ k, k < w.heap.size → G k → ¬ S k) (ha : Avoid S w [126, 5, 3, 53, 64]) : DiskAt w' G pd pp pc A c D :=
  ⟨(hf.block pd h.hasD.lt (hS _ h.hasD.lt h.own)).trans h.head, h.cache.keepF hf hS (ha.sub (by simp)), h.flts.keepA hf (ha.sub (by simp)), h.own, h.geo⟩
theorem keepX {b2 : Nat} (h : DiskAt w G pd pp pc A c D) (hf : Fr (· = b2) w w') (hT : HasT w b2 53) (hn : ¬ G b2) : DiskAt w' G pd pp pc A c D := by
  have ha : Avoid (· = b2) w [79, 64] := avoid_one hT (by decide)
  exact ⟨(hf.block pd h.hasD.lt (ha.not h.hasD (by simp))).trans h.head, h.cache.keepX hf hT hn, h.flts.keepA hf (ha.sub (by simp)), h.own, h.geo⟩
theorem mono (h : DiskAt w G pd pp pc A c D) (hG : ∀ k, k < w.heap.size → G k → H k) : DiskAt w H pd pp pc A c D := ⟨h.head, h.cache.mono hG, h.flts, hG _ h.hasD.lt h.own, h.geo⟩
theorem cells (h : DiskAt w G pd pp pc A c D) : w.cell? ⟨pd, 0, none⟩ = some (.int .i64 D.s0) ∧ w.cell? ⟨pd, 1, none⟩ = some (.int .i64 D.s1) ∧ w.cell? ⟨pd, 2, none⟩ = some (.int .i64 D.s2) ∧ w.cell? ⟨pd, 3, none⟩ = some (.int .i64 D.s3) ∧ w.cell? ⟨pd, 4, none⟩ = some (.int .i64 D.count) ∧
    w.cell? ⟨pd, 10, none⟩ = some (.pointer (some ⟨pc, 0, none⟩)) ∧ w.cell? ⟨pd, 11, none⟩ = some (.slice A D.fl.length c) ∧ w.cell? ⟨pd, 12, none⟩ = some (.pointer (some ⟨pp, 0, none⟩)) ∧ w.cell? ⟨pd, 13, none⟩ = some (.int .i64 D.seen) ∧ w.cell? ⟨pd, 14, none⟩ = some (.int .u64 D.key) ∧ w.cell? ⟨pd, 15, none⟩ = some (.bool D.dead) ∧ pd < w.heap.size := by
  have h1 := h.head
  refine ⟨?_, ?_, ?_, ?_, ?_, ?_, ?_, ?_, ?_, ?_, ?_, (Array.getElem?_eq_some_iff.1 h1).1⟩ <;> (rw [cell_of_row _ pd _ _ _ _ h1]; rfl)
theorem geoCells (h : DiskAt w G pd pp pc A c D) : w.cell? ⟨pd, 5, none⟩ = some (.int .i64 D.g.r) ∧ w.cell? ⟨pd, 6, none⟩ = some (.int .i64 D.g.b) ∧ w.cell? ⟨pd, 7, none⟩ = some (.int .i64 D.g.t) ∧ w.cell? ⟨pd, 8, none⟩ = some (.int .i64 D.g.s) ∧ w.cell? ⟨pd, 9, none⟩ = some (.int .i64 D.g.o) := by
  have h1 := h.head
  refine ⟨?_, ?_, ?_, ?_, ?_⟩ <;> (rw [cell_of_row _ pd _ _ _ _ h1]; rfl)
theorem fz (h : DiskAt w G pd pp pc A c D) (j : Nat) : w.frozen? ⟨pd, j, none⟩ = false := by simp [World.frozen?, h.head]
end DiskAt
namespace IsDisk
variable {w w' : World} {G H : Nat → Prop} {pd pp : Nat} {D : Dsk}
theorem keepA {S : Nat → Prop} (h : IsDisk w G pd pp D) (hf : Fr S w w') (ha : Avoid S w diskUs) : IsDisk w' G pd pp D := by
  obtain ⟨_, _, _, h⟩ := h
  exact ⟨_, _, _, h.keepA hf ha⟩
theorem keepF {S : Nat → Prop} (h : IsDisk w G pd pp D) (hf : Fr S w w') (hS : ∀ k, k < w.heap.size → G k → ¬ S k) (ha : Avoid S w [126, 5, 3, 53, 64]) : IsDisk w' G pd pp D := by
  obtain ⟨_, _, _, h⟩ := h
  exact ⟨_, _, _, h.keepF hf hS ha⟩
theorem below (h : IsDisk w G pd pp D) (hb : Below w.heap.size w w') : IsDisk w' G pd pp D := h.keepA (Fr.ofBelow hb _) avoid_none
theorem drew (h : IsDisk w G pd pp D) : IsDisk w.drew G pd pp D := h.below (Below.refl _ _).drew
theorem mono (h : IsDisk w G pd pp D) (hG : ∀ k, k < w.heap.size → G k → H k) : IsDisk w H pd pp D := by
  obtain ⟨_, _, _, h⟩ := h
  exact ⟨_, _, _, h.mono hG⟩
end IsDisk
/-- A store into the head of a disk: another disk, if its cells say so. -/
theorem DiskAt.store {w : World} {G : Nat → Prop} {pd pp pc : Nat} {A : Option Addr} {c : Nat} {D D' : Dsk} (h : DiskAt w G pd pp pc A c D) {i : Nat} {v : Value}
    (hh : (#[.int .i64 D.s0, .int .i64 D.s1, .int .i64 D.s2, .int .i64 D.s3, .int .i64 D.count, .int .i64 D.g.r, .int .i64 D.g.b, .int .i64 D.g.t, .int .i64 D.g.s, .int .i64 D.g.o,
    .pointer (some ⟨pc, 0, none⟩), .slice A D.fl.length c, .pointer (some ⟨pp, 0, none⟩), .int .i64 D.seen, .int .u64 D.key, .bool D.dead] : Array Value).setIfInBounds i v = #[.int .i64 D'.s0, .int .i64 D'.s1, .int .i64 D'.s2, .int .i64 D'.s3, .int .i64 D'.count, .int .i64 D'.g.r, .int .i64 D'.g.b, .int .i64 D'.g.t, .int .i64 D'.g.s, .int .i64 D'.g.o,
    .pointer (some ⟨pc, 0, none⟩), .slice A D'.fl.length c, .pointer (some ⟨pp, 0, none⟩), .int .i64 D'.seen, .int .u64 D'.key, .bool D'.dead]) (hc : D'.c = D.c) (hf : D'.fl = D.fl) (hg : D'.g = D.g) :
    DiskAt (w.setCell ⟨pd, i, none⟩ v) G pd pp pc A c D' ∧ FrG G diskTs w (w.setCell ⟨pd, i, none⟩ v) := by
  have F := fr_one w pd i v
  have hA : Avoid (· = pd) w [118, 126, 133, 5, 120, 3, 53, 64] := avoid_one h.hasD (by decide)
  refine ⟨⟨by rw [head_set h.head i v, hh], by rw [hc]; exact h.cache.keepA F (hA.sub (by simp [cacheUs])), by rw [hf]; exact h.flts.keepA F (hA.sub (by simp)), h.own, by rw [hc, hg]; exact h.geo⟩, FrG.ofOne F h.hasD (by decide) h.own⟩
theorem IsPow.setD {w : World} {G : Nat → Prop} {pd pp : Nat} {P : Pow} (h : IsPow w G pp P) (hd : HasT w pd 79) (i : Nat) (v : Value) : IsPow (w.setCell ⟨pd, i, none⟩ v) G pp P := h.keepA (fr_one w pd i v) (avoid_one hd (by decide))
end Go.Proofs.YtmloiifnadaaoaaGreat
