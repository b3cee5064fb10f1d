/- Plain mathematics of media: sectors, writes, erasures. -/
import Derived.Test.YtmloiifnadaaoaaGeoW5
namespace Go.Proofs.Ytmloiifnadaaoaa
open Go.RowKit

/-- A sector: its state (0 blank, 1 written, 2 destroyed) and its bytes. -/
structure Sec where
  st : Int
  bs : List UInt8
def Sec.blank : Sec := ⟨0, []⟩
def Sec.dead : Sec := ⟨2, []⟩

structure Med where
  g : Geo
  l : List Sec

namespace Med
/-- A medium is well made: its geometry is valid, it has just its sectors, and no sector has more than 64 bytes. -/
structure Good (m : Med) : Prop where
  ok : m.g.Ok
  len : (m.l.length : Int) = m.g.size
  short : ∀ s ∈ m.l, s.bs.length ≤ 64

def has (m : Med) (a : Int) : Bool := decide (0 ≤ a ∧ a < (m.l.length : Int))
def sec (m : Med) (a : Int) : Sec := m.l.getD a.toNat Sec.blank
def state (m : Med) (a : Int) : Int := if m.has a then (m.sec a).st else 0
/-- Read: bytes, error. -/
def readE (m : Med) (a : Int) : Int := if m.has a = false then 2 else if (m.sec a).st ≠ 1 then 15 else 0
def readB (m : Med) (a : Int) : List UInt8 := if m.readE a = 0 then (m.sec a).bs else []

def kill (l : List Sec) (sh : List Int) : List Sec := sh.foldl (fun l s => l.set s.toNat Sec.dead) l
def wipe (l : List Sec) (from_ n : Nat) : List Sec := (List.range n).foldl (fun l i => l.set (from_ + i) Sec.blank) l

def writeE (m : Med) (a : Int) (b : List UInt8) : Int := if m.has a = false then 2 else if 64 < b.length then 7 else 0
def write (m : Med) (a : Int) (b : List UInt8) : Med := if m.writeE a b = 0 then { m with l := kill (m.l.set a.toNat ⟨1, b⟩) (m.g.shadow a) } else m
def eraseE (m : Med) (k : Int) : Int := if 0 ≤ k ∧ k < m.g.b then 0 else 2
def erase (m : Med) (k : Int) : Med := if m.eraseE k = 0 then { m with l := wipe m.l (m.g.r + k * (m.g.t * m.g.s)).toNat (m.g.t * m.g.s).toNat } else m
def new (g : Geo) : Med := ⟨g, List.replicate g.size.toNat Sec.blank⟩

theorem kill_len (l : List Sec) (sh : List Int) : (kill l sh).length = l.length := by
  unfold kill
  induction sh generalizing l with
  | nil => rfl
  | cons s sh ih => rw [List.foldl_cons, ih, List.length_set]
theorem wipe_len (l : List Sec) (a n : Nat) : (wipe l a n).length = l.length := by
  unfold wipe
  induction n with
  | zero => rfl
  | succ n ih => rw [List.range_succ, List.foldl_append]; simp only [List.foldl_cons, List.foldl_nil, List.length_set]; exact ih
theorem wipe_succ (l : List Sec) (a n : Nat) : wipe l a (n + 1) = (wipe l a n).set (a + n) Sec.blank := by
  unfold wipe
  rw [List.range_succ, List.foldl_append]
  rfl
theorem kill_snoc (l : List Sec) (sh : List Int) (s : Int) : kill l (sh ++ [s]) = (kill l sh).set s.toNat Sec.dead := by
  unfold kill
  rw [List.foldl_append]
  rfl
theorem mem_set_short {l : List Sec} (h : ∀ s ∈ l, s.bs.length ≤ 64) {i : Nat} {x : Sec} (hx : x.bs.length ≤ 64) : ∀ s ∈ l.set i x, s.bs.length ≤ 64 := by
  intro s hs
  rcases List.mem_or_eq_of_mem_set hs with h1 | h1
  · exact h s h1
  · rw [h1]; exact hx
theorem kill_short {l : List Sec} (h : ∀ s ∈ l, s.bs.length ≤ 64) (sh : List Int) : ∀ s ∈ kill l sh, s.bs.length ≤ 64 := by
  unfold kill
  induction sh generalizing l with
  | nil => exact h
  | cons s sh ih => exact ih (mem_set_short h (by simp [Sec.dead]))
theorem wipe_short {l : List Sec} (h : ∀ s ∈ l, s.bs.length ≤ 64) (a n : Nat) : ∀ s ∈ wipe l a n, s.bs.length ≤ 64 := by
  induction n with
  | zero => exact h
  | succ n ih => rw [wipe_succ]; exact mem_set_short ih (by simp [Sec.blank])

theorem writeE_zero {m : Med} {a : Int} {b : List UInt8} : m.writeE a b = 0 ↔ m.has a = true ∧ b.length ≤ 64 := by
  unfold writeE
  cases m.has a with
  | false => simp
  | true => by_cases h : 64 < b.length <;> simp [h]; omega
theorem write_g (m : Med) (a : Int) (b : List UInt8) : (m.write a b).g = m.g := by unfold write; split <;> rfl
theorem erase_g (m : Med) (k : Int) : (m.erase k).g = m.g := by unfold erase; split <;> rfl
theorem write_len (m : Med) (a : Int) (b : List UInt8) : (m.write a b).l.length = m.l.length := by
  unfold write; split
  · simp only [kill_len, List.length_set]
  · rfl
theorem erase_len (m : Med) (k : Int) : (m.erase k).l.length = m.l.length := by
  unfold erase; split
  · simp only [wipe_len]
  · rfl
theorem Good.write {m : Med} (h : m.Good) (a : Int) (b : List UInt8) : (m.write a b).Good := by
  refine ⟨by rw [write_g]; exact h.ok, by rw [write_len, write_g]; exact h.len, ?_⟩
  unfold Med.write
  split
  · rename_i h0
    exact kill_short (mem_set_short h.short (writeE_zero.1 h0).2) _
  · exact h.short
theorem Good.erase {m : Med} (h : m.Good) (k : Int) : (m.erase k).Good := by
  refine ⟨by rw [erase_g]; exact h.ok, by rw [erase_len, erase_g]; exact h.len, ?_⟩
  unfold Med.erase
  split
  · exact wipe_short h.short _ _
  · exact h.short
theorem good_new {g : Geo} (h : g.Ok) : (new g).Good := by
  refine ⟨h, ?_, ?_⟩
  · have := (Geo.size_bd g).1
    simp only [new, List.length_replicate]
    omega
  · intro s hs
    simp only [new] at hs
    rw [(List.mem_replicate.1 hs).2]
    simp [Sec.blank]
theorem Good.len_le {m : Med} (h : m.Good) : m.l.length ≤ 81920 := by
  have := h.len
  have := (Geo.size_bd m.g).2
  omega
theorem has_iff {m : Med} {a : Int} : m.has a = true ↔ 0 ≤ a ∧ a < (m.l.length : Int) := by simp [has]
theorem has_no {m : Med} {a : Int} : m.has a = false ↔ ¬ (0 ≤ a ∧ a < (m.l.length : Int)) := by simp [has]
/-- A sector of the shadow is there. -/
theorem shadow_has {m : Med} (h : m.Good) {a s : Int} (hs : s ∈ m.g.shadow a) : m.has s = true := by
  unfold Geo.shadow at hs
  obtain ⟨k, hk, rfl⟩ := List.mem_map.1 hs
  rw [List.mem_range] at hk
  cases hi : m.g.inBand a with
  | false => unfold Geo.nsh at hk; rw [hi] at hk; simp at hk
  | true =>
    have h2 := (Geo.nsh_lt hi k).2 hk
    obtain ⟨_, h4⟩ := Geo.shadow_at hi (k := (k : Int) + 1) (by omega) h2.2
    obtain ⟨ho, h5, h6⟩ := Geo.inBand_iff.1 h4
    have := h.len
    rw [Geo.size_ok ho] at this
    have := ho.r0
    exact has_iff.2 ⟨by omega, by omega⟩
theorem erase_has {m : Med} (h : m.Good) {k : Int} (hk : 0 ≤ k ∧ k < m.g.b) : 0 ≤ m.g.r + k * (m.g.t * m.g.s) ∧ m.g.r + k * (m.g.t * m.g.s) + m.g.t * m.g.s ≤ (m.l.length : Int) := by
  have ho := h.ok
  have := h.len
  rw [Geo.size_ok ho] at this
  have h1 := ho.ts
  have h2 : 0 ≤ k * (m.g.t * m.g.s) := Int.mul_nonneg hk.1 (by omega)
  have h3 : (k + 1) * (m.g.t * m.g.s) ≤ m.g.b * (m.g.t * m.g.s) := Int.mul_le_mul_of_nonneg_right (by omega) (by omega)
  rw [Int.add_mul] at h3
  have := ho.r0
  omega
end Med
end Go.Proofs.Ytmloiifnadaaoaa
