/- Plain mathematics of geometries: no program in sight. -/
import Derived.Below
import Derived.WalkArith
namespace Go.Proofs.YtmloiifnadaaoaaGreat
open Go.RowKit

/-- n lies between lo and hi. -/
def wi (n lo hi : Int) : Bool := decide (lo ≤ n ∧ n ≤ hi)
theorem wi_true {n lo hi : Int} : wi n lo hi = true ↔ lo ≤ n ∧ n ≤ hi := by simp [wi]
theorem wi_false {n lo hi : Int} : wi n lo hi = false ↔ ¬ (lo ≤ n ∧ n ≤ hi) := by simp [wi]

structure Geo where
  r : Int
  b : Int
  t : Int
  s : Int
  o : Int

namespace Geo
def cells (g : Geo) : List Value := [.int .i64 g.r, .int .i64 g.b, .int .i64 g.t, .int .i64 g.s, .int .i64 g.o]

structure Ok (g : Geo) : Prop where
  r0 : 0 ≤ g.r
  r1 : g.r ≤ 16384
  b0 : 1 ≤ g.b
  b1 : g.b ≤ 64
  t0 : 1 ≤ g.t
  t1 : g.t ≤ 16
  s0 : 1 ≤ g.s
  s1 : g.s ≤ 64
  o0 : 0 ≤ g.o
  o1 : g.o ≤ 3

def ok (g : Geo) : Bool := wi g.r 0 16384 && wi g.b 1 64 && wi g.t 1 16 && wi g.s 1 64 && wi g.o 0 3
theorem ok_iff {g : Geo} : g.ok = true ↔ g.Ok := by
  simp only [ok, Bool.and_eq_true, wi_true]
  exact ⟨fun ⟨⟨⟨⟨⟨a, b⟩, c, d⟩, e, f⟩, h, i⟩, j, k⟩ => ⟨a, b, c, d, e, f, h, i, j, k⟩, fun ⟨a, b, c, d, e, f, h, i, j, k⟩ => ⟨⟨⟨⟨⟨a, b⟩, c, d⟩, e, f⟩, h, i⟩, j, k⟩⟩

/-- The sectors of a band. -/
def bs (g : Geo) : Int := if g.ok then g.t * g.s else 0
/-- All sectors. -/
def size (g : Geo) : Int := if g.ok then g.r + g.b * (g.t * g.s) else 0

theorem Ok.ts {g : Geo} (h : g.Ok) : 1 ≤ g.t * g.s ∧ g.t * g.s ≤ 1024 := by
  obtain ⟨_, _, _, _, h1, h2, h3, h4, _, _⟩ := h
  constructor
  · have := Int.mul_le_mul h1 h3 (by omega) (by omega); omega
  · have := Int.mul_le_mul h2 h4 (by omega) (by omega); omega
theorem Ok.bts {g : Geo} (h : g.Ok) : 1 ≤ g.b * (g.t * g.s) ∧ g.b * (g.t * g.s) ≤ 65536 := by
  obtain ⟨h5, h6⟩ := h.ts
  obtain ⟨_, _, h1, h2, _, _, _, _, _, _⟩ := h
  constructor
  · have := Int.mul_le_mul h1 h5 (by omega) (by omega); omega
  · have := Int.mul_le_mul h2 h6 (by omega) (by omega); omega
theorem size_ok {g : Geo} (h : g.Ok) : g.size = g.r + g.b * (g.t * g.s) := by simp [size, ok_iff.2 h]
theorem bs_ok {g : Geo} (h : g.Ok) : g.bs = g.t * g.s := by simp [bs, ok_iff.2 h]
theorem size_no {g : Geo} (h : g.ok = false) : g.size = 0 := by simp [size, h]
theorem bs_no {g : Geo} (h : g.ok = false) : g.bs = 0 := by simp [bs, h]
theorem size_bd (g : Geo) : 0 ≤ g.size ∧ g.size ≤ 81920 := by
  cases h : g.ok with
  | true =>
    have h' := ok_iff.1 h
    have := h'.bts
    rw [size_ok h']
    have := h'.r0
    have := h'.r1
    omega
  | false => rw [size_no h]; omega
theorem bs_bd (g : Geo) : 0 ≤ g.bs ∧ g.bs ≤ 1024 := by
  cases h : g.ok with
  | true => have h' := ok_iff.1 h; have := h'.ts; rw [bs_ok h']; omega
  | false => rw [bs_no h]; omega

/-- Is there a sector of a band with the address a? -/
def inBand (g : Geo) (a : Int) : Bool := g.ok && wi a g.r (g.size - 1)
def place (g : Geo) (a : Int) : Int × Int × Int := ((a - g.r) / g.s / g.t, (a - g.r) / g.s % g.t, (a - g.r) % g.s)
/-- Locate: band, track, position, error. -/
def loc (g : Geo) (a : Int) : Int × Int × Int × Int :=
  if g.ok = false then (0, 0, 0, 1) else if g.inBand a = false then (0, 0, 0, 2) else ((g.place a).1, (g.place a).2.1, (g.place a).2.2, 0)
/-- Address: address, error. -/
def adr (g : Geo) (b t p : Int) : Int × Int :=
  if g.ok = false then (0, 1) else if (wi b 0 (g.b - 1) && wi t 0 (g.t - 1) && wi p 0 (g.s - 1)) = false then (0, 2) else (g.r + (b * g.t + t) * g.s + p, 0)
/-- How many tracks are behind the one of a, at most Overlap. -/
def nsh (g : Geo) (a : Int) : Nat := if g.inBand a then (min g.o (g.t - 1 - (g.place a).2.1)).toNat else 0
def shadow (g : Geo) (a : Int) : List Int := (List.range (g.nsh a)).map fun k : Nat => a + ((k : Int) + 1) * g.s

theorem inBand_iff {g : Geo} {a : Int} : g.inBand a = true ↔ g.Ok ∧ g.r ≤ a ∧ a < g.r + g.b * (g.t * g.s) := by
  simp only [inBand, Bool.and_eq_true, wi_true, ok_iff]
  constructor
  · rintro ⟨h, h1, h2⟩; rw [size_ok h] at h2; exact ⟨h, h1, by omega⟩
  · rintro ⟨h, h1, h2⟩; rw [size_ok h]; exact ⟨h, h1, by omega⟩

theorem place_eq {g : Geo} {a : Int} (_h : g.Ok) : a = g.r + ((g.place a).1 * g.t + (g.place a).2.1) * g.s + (g.place a).2.2 := by
  have h1 := Int.mul_ediv_add_emod (a - g.r) g.s
  have h2 := Int.mul_ediv_add_emod ((a - g.r) / g.s) g.t
  simp only [place]
  have h3 : ((a - g.r) / g.s / g.t * g.t + (a - g.r) / g.s % g.t) = (a - g.r) / g.s := by rw [Int.mul_comm]; exact h2
  rw [h3, Int.mul_comm]
  omega

theorem place_bd {g : Geo} {a : Int} (h : g.inBand a = true) : 0 ≤ (g.place a).1 ∧ (g.place a).1 < g.b ∧ 0 ≤ (g.place a).2.1 ∧ (g.place a).2.1 < g.t ∧ 0 ≤ (g.place a).2.2 ∧ (g.place a).2.2 < g.s := by
  obtain ⟨ho, h1, h2⟩ := inBand_iff.1 h
  have hs := ho.s0
  have ht := ho.t0
  simp only [place]
  refine ⟨?_, ?_, Int.emod_nonneg _ (by omega), Int.emod_lt_of_pos _ (by omega), Int.emod_nonneg _ (by omega), Int.emod_lt_of_pos _ (by omega)⟩
  · exact Int.ediv_nonneg (Int.ediv_nonneg (by omega) (by omega)) (by omega)
  · rw [Int.ediv_lt_iff_lt_mul (by omega), Int.ediv_lt_iff_lt_mul (by omega), Int.mul_assoc]; omega

/-- The place of an address that was made of one. -/
theorem place_of {g : Geo} {b t p : Int} (h : g.Ok) (t0 : 0 ≤ t) (t1 : t < g.t) (p0 : 0 ≤ p) (p1 : p < g.s) : g.place (g.r + (b * g.t + t) * g.s + p) = (b, t, p) := by
  have hs := h.s0
  have ht := h.t0
  have e : g.r + (b * g.t + t) * g.s + p - g.r = p + g.s * (b * g.t + t) := by rw [Int.mul_comm g.s]; omega
  have e1 : (p + g.s * (b * g.t + t)) / g.s = b * g.t + t := by rw [Int.add_mul_ediv_left _ _ (by omega), Int.ediv_eq_zero_of_lt p0 p1]; omega
  have e2 : (p + g.s * (b * g.t + t)) % g.s = p := by rw [Int.add_mul_emod_self_left]; exact Int.emod_eq_of_lt p0 p1
  have e3 : (b * g.t + t) / g.t = b := by rw [Int.add_comm, Int.mul_comm, Int.add_mul_ediv_left _ _ (by omega), Int.ediv_eq_zero_of_lt t0 t1]; omega
  have e4 : (b * g.t + t) % g.t = t := by rw [Int.add_comm, Int.mul_comm, Int.add_mul_emod_self_left]; exact Int.emod_eq_of_lt t0 t1
  simp only [place, e, e1, e2, e3, e4]

/-- The address of a place is in a band. -/
theorem inBand_of {g : Geo} {b t p : Int} (h : g.Ok) (b0 : 0 ≤ b) (b1 : b < g.b) (t0 : 0 ≤ t) (t1 : t < g.t) (p0 : 0 ≤ p) (p1 : p < g.s) : g.inBand (g.r + (b * g.t + t) * g.s + p) = true := by
  refine inBand_iff.2 ⟨h, ?_, ?_⟩
  · have : 0 ≤ (b * g.t + t) * g.s := Int.mul_nonneg (by have := Int.mul_nonneg b0 (show 0 ≤ g.t by have := h.t0; omega); omega) (by have := h.s0; omega)
    omega
  · have h1 : b * g.t + t + 1 ≤ g.b * g.t := by
      have : (b + 1) * g.t ≤ g.b * g.t := Int.mul_le_mul_of_nonneg_right (by omega) (by have := h.t0; omega)
      rw [Int.add_mul] at this
      omega
    have h2 : (b * g.t + t + 1) * g.s ≤ g.b * g.t * g.s := Int.mul_le_mul_of_nonneg_right h1 (by have := h.s0; omega)
    rw [Int.add_mul, Int.mul_assoc g.b] at h2
    omega

theorem adr_no {g : Geo} (h : g.ok = false) (x y z : Int) : g.adr x y z = (0, 1) := by unfold adr; rw [if_pos h]
theorem adr_in {g : Geo} (h : g.Ok) {x y z : Int} (hx : 0 ≤ x ∧ x < g.b) (hy : 0 ≤ y ∧ y < g.t) (hz : 0 ≤ z ∧ z < g.s) : g.adr x y z = (g.r + (x * g.t + y) * g.s + z, 0) := by
  unfold adr
  rw [if_neg (by rw [ok_iff.2 h]; decide), if_neg]
  rw [wi_true.2 ⟨hx.1, by omega⟩, wi_true.2 ⟨hy.1, by omega⟩, wi_true.2 ⟨hz.1, by omega⟩]
  decide
theorem adr_out {g : Geo} (h : g.Ok) {x y z : Int} (hx : ¬ ((0 ≤ x ∧ x < g.b) ∧ (0 ≤ y ∧ y < g.t) ∧ 0 ≤ z ∧ z < g.s)) : g.adr x y z = (0, 2) := by
  unfold adr
  rw [if_neg (by rw [ok_iff.2 h]; decide), if_pos]
  cases h1 : wi x 0 (g.b - 1) with
  | false => rfl
  | true =>
    cases h2 : wi y 0 (g.t - 1) with
    | false => rfl
    | true =>
      cases h3 : wi z 0 (g.s - 1) with
      | false => rfl
      | true => rw [wi_true] at h1 h2 h3; exact absurd ⟨⟨h1.1, by omega⟩, ⟨h2.1, by omega⟩, h3.1, by omega⟩ hx
theorem adr_bd {b t s x y : Int} (hx : 0 ≤ x ∧ x < b) (hy : 0 ≤ y ∧ y < t) (b1 : b ≤ 64) (t1 : t ≤ 16) (s0 : 1 ≤ s) (s1 : s ≤ 64) : (0 ≤ x * t ∧ x * t ≤ 1024) ∧ 0 ≤ (x * t + y) * s ∧ (x * t + y) * s ≤ 66560 := by
  have h1 : 0 ≤ x * t := Int.mul_nonneg hx.1 (by omega)
  have h2 : x * t ≤ 64 * 16 := Int.mul_le_mul (by omega) t1 (by omega) (by omega)
  have h3 : 0 ≤ (x * t + y) * s := Int.mul_nonneg (by omega) (by omega)
  have h4 : (x * t + y) * s ≤ 1040 * 64 := Int.mul_le_mul (by omega) s1 (by omega) (by omega)
  omega
theorem nsh_le (g : Geo) (a : Int) : g.nsh a ≤ 3 := by
  unfold nsh
  split
  · rename_i h
    have := (inBand_iff.1 h).1.o1
    omega
  · omega

/-- The k-th track behind the one of a, while there is one. -/
theorem shadow_at {g : Geo} {a : Int} (h : g.inBand a = true) {k : Int} (k0 : 0 ≤ k) (hk : (g.place a).2.1 + k < g.t) :
    g.place (a + k * g.s) = ((g.place a).1, (g.place a).2.1 + k, (g.place a).2.2) ∧ g.inBand (a + k * g.s) = true := by
  obtain ⟨ho, _, _⟩ := inBand_iff.1 h
  obtain ⟨b0, b1, t0, t1, p0, p1⟩ := place_bd h
  have e : a + k * g.s = g.r + ((g.place a).1 * g.t + ((g.place a).2.1 + k)) * g.s + (g.place a).2.2 := by
    have := place_eq (a := a) ho
    rw [← Int.add_assoc, Int.add_mul _ k]
    omega
  rw [e]
  exact ⟨place_of ho (by omega) hk p0 p1, inBand_of ho b0 b1 (by omega) hk p0 p1⟩
end Geo
end Go.Proofs.YtmloiifnadaaoaaGreat
