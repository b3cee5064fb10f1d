/- Plain mathematics of media: what each sector is after a write, after an erasure. -/
import Derived.Test.YtmloiifnadaaoaaGreatPlay
namespace Go.Proofs.YtmloiifnadaaoaaGreat
open Go.RowKit
set_option linter.unusedVariables false
namespace Med

theorem sec_eq (m : Med) (a : Int) : m.sec a = (m.l[a.toNat]?).getD Sec.blank := by unfold sec; rw [List.getD_eq_getElem?_getD]
theorem kill_at (l : List Sec) (sh : List Int) (i : Nat) (hi : i < l.length) : (kill l sh)[i]? = if ∃ s ∈ sh, s.toNat = i then some Sec.dead else l[i]? := by
  induction sh generalizing l with
  | nil => simp [kill]
  | cons s sh ih =>
    have e : kill l (s :: sh) = kill (l.set s.toNat Sec.dead) sh := rfl
    rw [e, ih _ (by rw [List.length_set]; exact hi)]
    by_cases h1 : ∃ x ∈ sh, x.toNat = i
    · rw [if_pos h1, if_pos]
      obtain ⟨x, hx, hxi⟩ := h1
      exact ⟨x, List.mem_cons_of_mem _ hx, hxi⟩
    · rw [if_neg h1]
      by_cases h2 : s.toNat = i
      · subst h2
        rw [List.getElem?_set_self hi, if_pos ⟨s, List.mem_cons_self, rfl⟩]
      · rw [List.getElem?_set_ne h2, if_neg]
        rintro ⟨x, hx, hxi⟩
        rcases List.mem_cons.1 hx with rfl | hx
        · exact h2 hxi
        · exact h1 ⟨x, hx, hxi⟩
theorem wipe_at (l : List Sec) (f n i : Nat) (hi : i < l.length) : (wipe l f n)[i]? = if f ≤ i ∧ i < f + n then some Sec.blank else l[i]? := by
  induction n with
  | zero => rw [if_neg (by omega)]; rfl
  | succ n ih =>
    rw [wipe_succ]
    by_cases h : f + n = i
    · subst h
      rw [List.getElem?_set_self (by rw [wipe_len]; exact hi), if_pos (by omega)]
    · rw [List.getElem?_set_ne h, ih]
      by_cases h2 : f ≤ i ∧ i < f + n
      · rw [if_pos h2, if_pos (by omega)]
      · rw [if_neg h2, if_neg (by omega)]

theorem shadow_lt {g : Geo} {a s : Int} (hs : s ∈ g.shadow a) : a < s := by
  unfold Geo.shadow at hs
  obtain ⟨k, hk, rfl⟩ := List.mem_map.1 hs
  rw [List.mem_range] at hk
  cases hi : g.inBand a with
  | false => unfold Geo.nsh at hk; rw [hi] at hk; simp at hk
  | true =>
    have h0 := (Geo.inBand_iff.1 hi).1.s0
    have : 0 < ((k : Int) + 1) * g.s := Int.mul_pos (by omega) (by omega)
    omega

theorem has_len {m m' : Med} (h : m'.l.length = m.l.length) (a : Int) : m'.has a = m.has a := by unfold has; rw [h]
theorem has_write (m : Med) (a : Int) (b : List UInt8) (x : Int) : (m.write a b).has x = m.has x := has_len (write_len m a b) x
theorem has_erase (m : Med) (k : Int) (x : Int) : (m.erase k).has x = m.has x := has_len (erase_len m k) x
theorem has_op (m : Med) (o : Opn) (x : Int) : (m.op o).has x = m.has x := has_len (op_len m o) x

theorem sec_write {m : Med} (hm : m.Good) {a : Int} {b : List UInt8} (h : m.writeE a b = 0) {x : Int} (hx : m.has x = true) :
    (m.write a b).sec x = if x ∈ m.g.shadow a then Sec.dead else if x = a then ⟨1, b⟩ else m.sec x := by
  have ha := has_iff.1 (writeE_zero.1 h).1
  have hx' := has_iff.1 hx
  have e : (m.write a b).l = kill (m.l.set a.toNat ⟨1, b⟩) (m.g.shadow a) := by unfold write; rw [if_pos h]
  rw [sec_eq, e, kill_at _ _ _ (by rw [List.length_set]; omega)]
  have hiff : (∃ s ∈ m.g.shadow a, s.toNat = x.toNat) ↔ x ∈ m.g.shadow a := by
    constructor
    · rintro ⟨s, hs, e⟩
      have := shadow_lt hs
      have : s = x := by omega
      rw [← this]; exact hs
    · intro hh; exact ⟨x, hh, rfl⟩
  by_cases h1 : x ∈ m.g.shadow a
  · rw [if_pos (hiff.2 h1), if_pos h1]; rfl
  · rw [if_neg (fun hh => h1 (hiff.1 hh)), if_neg h1]
    by_cases h2 : x = a
    · subst h2
      rw [List.getElem?_set_self (by omega), if_pos rfl]; rfl
    · rw [List.getElem?_set_ne (by omega), if_neg h2, sec_eq]
theorem sec_write_no {m : Med} {a : Int} {b : List UInt8} (h : m.writeE a b ≠ 0) : m.write a b = m := by unfold write; rw [if_neg h]

theorem sec_erase {m : Med} (hm : m.Good) {k : Int} (h : m.eraseE k = 0) {x : Int} (hx : m.has x = true) :
    (m.erase k).sec x = if m.g.r + k * (m.g.t * m.g.s) ≤ x ∧ x < m.g.r + k * (m.g.t * m.g.s) + m.g.t * m.g.s then Sec.blank else m.sec x := by
  have hx' := has_iff.1 hx
  have hk : 0 ≤ k ∧ k < m.g.b := by
    unfold eraseE at h
    split at h
    · assumption
    · cases h
  have hh := erase_has hm hk
  have hts := hm.ok.ts
  have e : (m.erase k).l = wipe m.l (m.g.r + k * (m.g.t * m.g.s)).toNat (m.g.t * m.g.s).toNat := by unfold erase; rw [if_pos h]
  rw [sec_eq, e, wipe_at _ _ _ _ (by omega)]
  by_cases h1 : m.g.r + k * (m.g.t * m.g.s) ≤ x ∧ x < m.g.r + k * (m.g.t * m.g.s) + m.g.t * m.g.s
  · rw [if_pos h1, if_pos (by omega)]; rfl
  · rw [if_neg h1, if_neg (by omega), sec_eq]
theorem sec_erase_no {m : Med} {k : Int} (h : m.eraseE k ≠ 0) : m.erase k = m := by unfold erase; rw [if_neg h]

theorem readE_of {m : Med} {a : Int} (h : m.has a = true) (hs : (m.sec a).st = 1) : m.readE a = 0 := by
  unfold readE; rw [if_neg (by rw [h]; decide), if_neg (by simp [hs])]
theorem readB_of {m : Med} {a : Int} (h : m.has a = true) (hs : (m.sec a).st = 1) : m.readB a = (m.sec a).bs := by
  unfold readB; rw [if_pos (readE_of h hs)]
/-- What is written is read. -/
theorem read_write {m : Med} (hm : m.Good) {a : Int} {b : List UInt8} (h : m.writeE a b = 0) : (m.write a b).readE a = 0 ∧ (m.write a b).readB a = b ∧ (m.write a b).has a = true ∧ ((m.write a b).sec a).st = 1 := by
  have h1 := (writeE_zero.1 h).1
  have h2 : (m.write a b).has a = true := by rw [has_write]; exact h1
  have h3 : (m.write a b).sec a = ⟨1, b⟩ := by
    rw [sec_write hm h h1, if_neg (fun hh => by have := shadow_lt hh; omega), if_pos rfl]
  exact ⟨readE_of h2 (by rw [h3]), by rw [readB_of h2 (by rw [h3]), h3], h2, by rw [h3]⟩
theorem new_has {g : Geo} {a : Int} (h0 : 0 ≤ a) (h1 : a < g.size) : (new g).has a = true := by
  refine has_iff.2 ⟨h0, ?_⟩
  have := (Geo.size_bd g).1
  simp only [new, List.length_replicate]
  omega
end Med
end Go.Proofs.YtmloiifnadaaoaaGreat
