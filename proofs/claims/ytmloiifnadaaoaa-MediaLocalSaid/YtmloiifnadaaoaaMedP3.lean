/- Plain mathematics of media: what an operation does not touch. -/
import Derived.Test.YtmloiifnadaaoaaMedP2
namespace Go.Proofs.Ytmloiifnadaaoaa
open Go.RowKit
set_option linter.unusedVariables false
namespace Med
def hit (S : List Int) (at_ a : Int) : Bool := decide (a = at_) || S.any (fun s => decide (s = a))
theorem hit_take (S : List Int) (at_ a : Int) (j : Nat) (s : Int) (h : S[j]? = some s) : hit (S.take (j + 1)) at_ a = (hit (S.take j) at_ a || decide (s = a)) := by
  unfold hit
  obtain ⟨hj, rfl⟩ := List.getElem?_eq_some_iff.1 h
  rw [List.take_succ_eq_append_getElem hj, List.any_append]
  simp [Bool.or_assoc]
theorem hit_no {S : List Int} {at_ a : Int} (h : hit S at_ a = false) : a ≠ at_ ∧ a ∉ S := by
  unfold hit at h
  simp only [Bool.or_eq_false_iff, decide_eq_false_iff_not] at h
  refine ⟨h.1, fun hm => ?_⟩
  have h2 := h.2
  rw [List.any_eq_false] at h2
  exact h2 a hm (by simp)
/-- Does the operation touch the sector? -/
def touched (g : Geo) (o : Opn) (a : Int) : Bool := if o.er then decide ((g.loc a).2.2.2 = 0) && decide ((g.loc a).1 = o.at_) else hit (g.shadow o.at_) o.at_ a

theorem band_of {g : Geo} (ho : g.Ok) {k a : Int} (hk : 0 ≤ k ∧ k < g.b) (h1 : g.r + k * (g.t * g.s) ≤ a) (h2 : a < g.r + k * (g.t * g.s) + g.t * g.s) : (g.loc a).2.2.2 = 0 ∧ (g.loc a).1 = k := by
  have hts := ho.ts
  have k0 : 0 ≤ k * (g.t * g.s) := Int.mul_nonneg hk.1 (by omega)
  have k1 : (k + 1) * (g.t * g.s) ≤ g.b * (g.t * g.s) := Int.mul_le_mul_of_nonneg_right (by omega) (by omega)
  rw [Int.add_mul] at k1
  have hin : g.inBand a = true := Geo.inBand_iff.2 ⟨ho, by omega, by omega⟩
  have hok := Geo.ok_iff.2 ho
  have e : g.loc a = ((g.place a).1, (g.place a).2.1, (g.place a).2.2, 0) := by unfold Geo.loc; rw [if_neg (by rw [hok]; decide), if_neg (by rw [hin]; decide)]
  rw [e]
  refine ⟨rfl, ?_⟩
  obtain ⟨b0, b1, t0, t1, p0, p1⟩ := Geo.place_bd hin
  have he := Geo.place_eq (a := a) ho
  simp only
  generalize (g.place a).1 = x at *
  generalize (g.place a).2.1 = y at *
  generalize (g.place a).2.2 = u at *
  have h3 : (x * g.t + y) * g.s = x * (g.t * g.s) + y * g.s := by rw [Int.add_mul, Int.mul_assoc]
  have h4 : (y + 1) * g.s ≤ g.t * g.s := Int.mul_le_mul_of_nonneg_right (by omega) (by omega)
  rw [Int.add_mul] at h4
  have h5 : 0 ≤ y * g.s := Int.mul_nonneg t0 (by omega)
  rw [h3] at he
  rcases Int.lt_trichotomy x k with hx | hx | hx
  · have h6 : (x + 1) * (g.t * g.s) ≤ k * (g.t * g.s) := Int.mul_le_mul_of_nonneg_right (by omega) (by omega)
    rw [Int.add_mul] at h6
    omega
  · exact hx
  · have h6 : (k + 1) * (g.t * g.s) ≤ x * (g.t * g.s) := Int.mul_le_mul_of_nonneg_right (by omega) (by omega)
    rw [Int.add_mul] at h6
    omega

theorem untouched {m : Med} (hm : m.Good) {o : Opn} {a : Int} (h : touched m.g o a = false ∨ m.opE o ≠ 0) (ha : m.has a = true) : (m.op o).sec a = m.sec a := by
  unfold op opE touched at *
  cases he : o.er with
  | true =>
    rw [he] at h
    simp only [if_true] at h ⊢
    by_cases h0 : m.eraseE o.at_ = 0
    · have h := h.resolve_right (fun hh => hh h0)
      have hk : 0 ≤ o.at_ ∧ o.at_ < m.g.b := by
        unfold eraseE at h0
        split at h0
        · assumption
        · cases h0
      rw [sec_erase hm h0 ha, if_neg]
      rintro ⟨h1, h2⟩
      obtain ⟨h3, h4⟩ := band_of hm.ok hk h1 h2
      rw [h3, h4] at h
      simp at h
    · rw [sec_erase_no h0]
  | false =>
    rw [he] at h
    simp only [Bool.false_eq_true, if_false] at h ⊢
    by_cases h0 : m.writeE o.at_ o.bs = 0
    · have h := hit_no (h.resolve_right (fun hh => hh h0))
      rw [sec_write hm h0 ha, if_neg h.2, if_neg h.1]
    · rw [sec_write_no h0]
theorem same_of_sec {m m' : Med} {a : Int} (hl : m'.l.length = m.l.length) (h : m'.sec a = m.sec a) : m'.readE a = m.readE a ∧ m'.readB a = m.readB a ∧ m'.state a = m.state a := by
  have hh := has_len hl a
  refine ⟨?_, ?_, ?_⟩
  · unfold readE; rw [hh, h]
  · unfold readB readE; rw [hh, h]
  · unfold state; rw [hh, h]
end Med
end Go.Proofs.Ytmloiifnadaaoaa
