/- Disks and power supplies of the reference in memory. -/
import Derived.Test.YtmloiifnadaaoaaGreatDskH
import Derived.Test.YtmloiifnadaaoaaGreatDcR
namespace Go.Proofs.YtmloiifnadaaoaaGreat
open Go.RowKit
set_option linter.unusedVariables false

/-- A power supply of the reference. -/
def IsRPow (w : World) (G : Nat → Prop) (pp : Nat) (P : Pow) : Prop :=
  G pp ∧ ∃ x, w.heap[pp]? = some (.cells #[.bool P.off, .bool P.armed, .int .i64 x, .int .i64 P.fails] 107 (0, 0)) ∧ (P.armed = true → x = P.left)
namespace IsRPow
variable {w w' : World} {G H : Nat → Prop} {pp : Nat} {P : Pow}
theorem hasP (h : IsRPow w G pp P) : HasT w pp 107 := by obtain ⟨_, x, h, _⟩ := h; exact ⟨_, _, h⟩
theorem keepA {S : Nat → Prop} (h : IsRPow w G pp P) (hf : Fr S w w') (ha : Avoid S w [107]) : IsRPow w' G pp P := by
  have hn := ha.not h.hasP (by simp)
  have hlt := h.hasP.lt
  obtain ⟨h0, x, h1, h2⟩ := h
  exact ⟨h0, x, (hf.block pp hlt hn).trans h1, h2⟩
theorem below (h : IsRPow w G pp P) (hb : Below w.heap.size w w') : IsRPow w' G pp P := h.keepA (Fr.ofBelow hb _) avoid_none
theorem drew (h : IsRPow w G pp P) : IsRPow w.drew G pp P := h.below (Below.refl _ _).drew
theorem mono (h : IsRPow w G pp P) (hG : G pp → H pp) : IsRPow w H pp P := ⟨hG h.1, h.2⟩
theorem cells (h : IsRPow w G pp P) : ∃ x, w.cell? ⟨pp, 0, none⟩ = some (.bool P.off) ∧ w.cell? ⟨pp, 1, none⟩ = some (.bool P.armed) ∧ w.cell? ⟨pp, 2, none⟩ = some (.int .i64 x) ∧ w.cell? ⟨pp, 3, none⟩ = some (.int .i64 P.fails) ∧ (P.armed = true → x = P.left) ∧ pp < w.heap.size ∧
    w.frozen? ⟨pp, 0, none⟩ = false ∧ w.frozen? ⟨pp, 1, none⟩ = false ∧ w.frozen? ⟨pp, 2, none⟩ = false ∧ w.frozen? ⟨pp, 3, none⟩ = false := by
  obtain ⟨h0, x, h1, h2⟩ := h
  exact ⟨x, by rw [cell_of_row _ pp _ _ _ _ h1]; rfl, by rw [cell_of_row _ pp _ _ _ _ h1]; rfl, by rw [cell_of_row _ pp _ _ _ _ h1]; rfl, by rw [cell_of_row _ pp _ _ _ _ h1]; rfl, h2, (Array.getElem?_eq_some_iff.1 h1).1, by simp [World.frozen?, h1], by simp [World.frozen?, h1], by simp [World.frozen?, h1], by simp [World.frozen?, h1]⟩
end IsRPow

abbrev rdiskTs : List TypeId := [90, 123, 48, 107]
abbrev rdiskUs : List TypeId := [90, 94, 123, 115, 5, 48, 64]
/-- A disk of the reference whose blocks that turn are in G. -/
structure RDiskAt (w : World) (G : Nat → Prop) (pd pp pc : Nat) (A : Option Addr) (c : Nat) (D : Dsk) : Prop where
  head : w.heap[pd]? = some (.cells #[.int .i64 D.g.r, .int .i64 D.g.b, .int .i64 D.g.t, .int .i64 D.g.s, .int .i64 D.g.o, .pointer (some ⟨pc, 0, none⟩), .slice A D.fl.length c, .pointer (some ⟨pp, 0, none⟩),
    .int .u64 D.key, .bool D.dead, .int .i64 D.seen, .int .i64 D.count, .int .i64 D.s0, .int .i64 D.s1, .int .i64 D.s2, .int .i64 D.s3] 48 (0, 0))
  cache : IsRGache w G pc D.c.d D.c.l
  flts : FltsT w A D.fl
  own : G pd
  geo : D.c.d.g = D.g
def IsRDisk (w : World) (G : Nat → Prop) (pd pp : Nat) (D : Dsk) : Prop := ∃ pc A c, RDiskAt w G pd pp pc A c D
namespace RDiskAt
variable {w w' : World} {G H : Nat → Prop} {pd pp pc : Nat} {A : Option Addr} {c : Nat} {D : Dsk}
theorem hasD (h : RDiskAt w G pd pp pc A c D) : HasT w pd 48 := ⟨_, _, h.head⟩
theorem keepA {S : Nat → Prop} (h : RDiskAt w G pd pp pc A c D) (hf : Fr S w w') (ha : Avoid S w rdiskUs) : RDiskAt w' G pd pp pc A c D :=
  ⟨(hf.block pd h.hasD.lt (ha.not h.hasD (by simp [rdiskUs]))).trans h.head, h.cache.keepA hf (ha.sub (by simp [rdiskUs, rcacheUs])), h.flts.keepA hf (ha.sub (by simp [rdiskUs])), h.own, h.geo⟩
theorem keepF {S : Nat → Prop} (h : RDiskAt w G pd pp pc A c D) (hf : Fr S w w') (hS : ∀ k, k < w.heap.size → G k → ¬ S k) (ha : Avoid S w [94, 115, 5, 64]) : RDiskAt w' G pd pp pc A c D :=
  ⟨(hf.block pd h.hasD.lt (hS _ h.hasD.lt h.own)).trans h.head, h.cache.keepF hf hS (ha.sub (by simp)), h.flts.keepA hf (ha.sub (by simp)), h.own, h.geo⟩
theorem mono (h : RDiskAt w G pd pp pc A c D) (hG : ∀ k, k < w.heap.size → G k → H k) : RDiskAt w H pd pp pc A c D := ⟨h.head, h.cache.mono hG, h.flts, hG _ h.hasD.lt h.own, h.geo⟩
theorem cells (h : RDiskAt w G pd pp pc A c D) : w.cell? ⟨pd, 5, none⟩ = some (.pointer (some ⟨pc, 0, none⟩)) ∧ w.cell? ⟨pd, 6, none⟩ = some (.slice A D.fl.length c) ∧ w.cell? ⟨pd, 7, none⟩ = some (.pointer (some ⟨pp, 0, none⟩)) ∧ w.cell? ⟨pd, 8, none⟩ = some (.int .u64 D.key) ∧ w.cell? ⟨pd, 9, none⟩ = some (.bool D.dead) ∧ w.cell? ⟨pd, 10, none⟩ = some (.int .i64 D.seen) ∧ w.cell? ⟨pd, 11, none⟩ = some (.int .i64 D.count) ∧
    w.cell? ⟨pd, 12, none⟩ = some (.int .i64 D.s0) ∧ w.cell? ⟨pd, 13, none⟩ = some (.int .i64 D.s1) ∧ w.cell? ⟨pd, 14, none⟩ = some (.int .i64 D.s2) ∧ w.cell? ⟨pd, 15, none⟩ = some (.int .i64 D.s3) ∧ pd < w.heap.size := by
  have h1 := h.head
  refine ⟨?_, ?_, ?_, ?_, ?_, ?_, ?_, ?_, ?_, ?_, ?_, (Array.getElem?_eq_some_iff.1 h1).1⟩ <;> (rw [cell_of_row _ pd _ _ _ _ h1]; rfl)
theorem geoCells (h : RDiskAt w G pd pp pc A c D) : w.cell? ⟨pd, 0, none⟩ = some (.int .i64 D.g.r) ∧ w.cell? ⟨pd, 1, none⟩ = some (.int .i64 D.g.b) ∧ w.cell? ⟨pd, 2, none⟩ = some (.int .i64 D.g.t) ∧ w.cell? ⟨pd, 3, none⟩ = some (.int .i64 D.g.s) ∧ w.cell? ⟨pd, 4, none⟩ = some (.int .i64 D.g.o) := by
  have h1 := h.head
  refine ⟨?_, ?_, ?_, ?_, ?_⟩ <;> (rw [cell_of_row _ pd _ _ _ _ h1]; rfl)
theorem fz (h : RDiskAt w G pd pp pc A c D) (j : Nat) : w.frozen? ⟨pd, j, none⟩ = false := by simp [World.frozen?, h.head]
end RDiskAt
namespace IsRDisk
variable {w w' : World} {G H : Nat → Prop} {pd pp : Nat} {D : Dsk}
theorem keepA {S : Nat → Prop} (h : IsRDisk w G pd pp D) (hf : Fr S w w') (ha : Avoid S w rdiskUs) : IsRDisk w' G pd pp D := by
  obtain ⟨_, _, _, h⟩ := h
  exact ⟨_, _, _, h.keepA hf ha⟩
theorem keepF {S : Nat → Prop} (h : IsRDisk w G pd pp D) (hf : Fr S w w') (hS : ∀ k, k < w.heap.size → G k → ¬ S k) (ha : Avoid S w [94, 115, 5, 64]) : IsRDisk w' G pd pp D := by
  obtain ⟨_, _, _, h⟩ := h
  exact ⟨_, _, _, h.keepF hf hS ha⟩
theorem below (h : IsRDisk w G pd pp D) (hb : Below w.heap.size w w') : IsRDisk w' G pd pp D := h.keepA (Fr.ofBelow hb _) avoid_none
theorem drew (h : IsRDisk w G pd pp D) : IsRDisk w.drew G pd pp D := h.below (Below.refl _ _).drew
theorem mono (h : IsRDisk w G pd pp D) (hG : ∀ k, k < w.heap.size → G k → H k) : IsRDisk w H pd pp D := by
  obtain ⟨_, _, _, h⟩ := h
  exact ⟨_, _, _, h.mono hG⟩
end IsRDisk
/-- A store into the head of a disk: another disk, if its cells say so. -/
theorem RDiskAt.store {w : World} {G : Nat → Prop} {pd pp pc : Nat} {A : Option Addr} {c : Nat} {D D' : Dsk} (h : RDiskAt w G pd pp pc A c D) {i : Nat} {v : Value}
    (hh : (#[.int .i64 D.g.r, .int .i64 D.g.b, .int .i64 D.g.t, .int .i64 D.g.s, .int .i64 D.g.o, .pointer (some ⟨pc, 0, none⟩), .slice A D.fl.length c, .pointer (some ⟨pp, 0, none⟩),
    .int .u64 D.key, .bool D.dead, .int .i64 D.seen, .int .i64 D.count, .int .i64 D.s0, .int .i64 D.s1, .int .i64 D.s2, .int .i64 D.s3] : Array Value).setIfInBounds i v = #[.int .i64 D'.g.r, .int .i64 D'.g.b, .int .i64 D'.g.t, .int .i64 D'.g.s, .int .i64 D'.g.o, .pointer (some ⟨pc, 0, none⟩), .slice A D'.fl.length c, .pointer (some ⟨pp, 0, none⟩),
    .int .u64 D'.key, .bool D'.dead, .int .i64 D'.seen, .int .i64 D'.count, .int .i64 D'.s0, .int .i64 D'.s1, .int .i64 D'.s2, .int .i64 D'.s3]) (hc : D'.c = D.c) (hf : D'.fl = D.fl) (hg : D'.g = D.g) :
    RDiskAt (w.setCell ⟨pd, i, none⟩ v) G pd pp pc A c D' ∧ FrG G rdiskTs w (w.setCell ⟨pd, i, none⟩ v) := by
  have F := fr_one w pd i v
  have hA : Avoid (· = pd) w [90, 94, 123, 115, 5, 64] := avoid_one h.hasD (by decide)
  refine ⟨⟨by rw [head_set h.head i v, hh], by rw [hc]; exact h.cache.keepA F (hA.sub (by simp [rcacheUs])), by rw [hf]; exact h.flts.keepA F (hA.sub (by simp)), h.own, by rw [hc, hg]; exact h.geo⟩, FrG.ofOne F h.hasD (by decide) h.own⟩
theorem IsRPow.setD {w : World} {G : Nat → Prop} {pd pp : Nat} {P : Pow} (h : IsRPow w G pp P) (hd : HasT w pd 48) (i : Nat) (v : Value) : IsRPow (w.setCell ⟨pd, i, none⟩ v) G pp P := h.keepA (fr_one w pd i v) (avoid_one hd (by decide))
end Go.Proofs.YtmloiifnadaaoaaGreat
