/- Plain mathematics of media: sequential writes behind an erasure. -/
import Derived.Test.YtmloiifnadaaoaaMedP
namespace Go.Proofs.Ytmloiifnadaaoaa
open Go.RowKit
set_option linter.unusedVariables false
namespace Med

def bt (i : Nat) : UInt8 := UInt8.ofNat i
theorem bt_val (i : Nat) : ((bt i).toNat : Int) = (i : Int) % 256 := by unfold bt; rw [UInt8.toNat_ofNat']; omega
/-- j sequential writes from F on. -/
def seqW (m : Med) (F j : Nat) : Med := (List.range j).foldl (fun m i => m.write ((F + i : Nat) : Int) [bt i]) m
theorem seqW_succ (m : Med) (F j : Nat) : seqW m F (j + 1) = (seqW m F j).write ((F + j : Nat) : Int) [bt j] := by unfold seqW; rw [List.range_succ, List.foldl_append]; rfl
theorem seqW_good {m : Med} (h : m.Good) (F j : Nat) : (seqW m F j).Good := by
  induction j with
  | zero => exact h
  | succ j ih => rw [seqW_succ]; exact ih.write _ _
theorem seqW_len (m : Med) (F j : Nat) : (seqW m F j).l.length = m.l.length := by
  induction j with
  | zero => rfl
  | succ j ih => rw [seqW_succ, write_len, ih]
theorem seqW_is {m : Med} (h : m.Good) {F z : Nat} (hz : F + z ≤ m.l.length) (hb : ∀ i, i < z → (m.sec ((F + i : Nat) : Int)).st ≠ 1) : ∀ j, j ≤ z →
    (∀ i, i < j → (seqW m F j).sec ((F + i : Nat) : Int) = ⟨1, [bt i]⟩) ∧ (∀ i, j ≤ i → i < z → ((seqW m F j).sec ((F + i : Nat) : Int)).st ≠ 1) := by
  intro j
  induction j with
  | zero => exact fun _ => ⟨fun i hi => by omega, fun i _ hi => hb i hi⟩
  | succ j ih =>
    intro hj
    obtain ⟨h1, h2⟩ := ih (by omega)
    have hg := seqW_good h F j
    have hl := seqW_len m F j
    have hhas : ∀ i, i < z → (seqW m F j).has ((F + i : Nat) : Int) = true := fun i hi => has_iff.2 ⟨by omega, by omega⟩
    have hw : (seqW m F j).writeE ((F + j : Nat) : Int) [bt j] = 0 := writeE_zero.2 ⟨hhas j (by omega), by simp⟩
    rw [seqW_succ]
    constructor
    · intro i hi
      rw [sec_write hg hw (hhas i (by omega)), if_neg (fun hh => by have := shadow_lt hh; omega)]
      by_cases e : i = j
      · subst e; rw [if_pos rfl]
      · rw [if_neg (by omega)]; exact h1 i (by omega)
    · intro i hi hiz
      rw [sec_write hg hw (hhas i hiz)]
      split
      · simp [Sec.dead]
      · rw [if_neg (by omega)]; exact h2 i (by omega) hiz
theorem seqW_write {m : Med} {F z : Nat} (hz : F + z ≤ m.l.length) {j : Nat} (hj : j < z) : (seqW m F j).writeE ((F + j : Nat) : Int) [bt j] = 0 := by
  have hl := seqW_len m F j
  exact writeE_zero.2 ⟨has_iff.2 ⟨by omega, by omega⟩, by simp⟩
theorem seqW_state {m : Med} (h : m.Good) {F z : Nat} (hz : F + z ≤ m.l.length) (hb : ∀ i, i < z → (m.sec ((F + i : Nat) : Int)).st ≠ 1) {j : Nat} (hj : j < z) : (seqW m F j).state ((F + j : Nat) : Int) ≠ 1 := by
  have hl := seqW_len m F j
  rw [state_yes (has_iff.2 ⟨by omega, by omega⟩)]
  exact (seqW_is h hz hb j (by omega)).2 j (Nat.le_refl _) hj
theorem seqW_read {m : Med} (h : m.Good) {F z : Nat} (hz : F + z ≤ m.l.length) (hb : ∀ i, i < z → (m.sec ((F + i : Nat) : Int)).st ≠ 1) {i : Nat} (hi : i < z) : (seqW m F z).readE ((F + i : Nat) : Int) = 0 ∧ (seqW m F z).readB ((F + i : Nat) : Int) = [bt i] := by
  have hl := seqW_len m F z
  have hh : (seqW m F z).has ((F + i : Nat) : Int) = true := has_iff.2 ⟨by omega, by omega⟩
  have hs := (seqW_is h hz hb z (Nat.le_refl _)).1 i hi
  exact ⟨readE_of hh (by rw [hs]), by rw [readB_of hh (by rw [hs]), hs]⟩
theorem Good.ops {m : Med} (h : m.Good) (l : List Opn) : (m.ops l).Good := by
  unfold Med.ops
  induction l generalizing m with
  | nil => exact h
  | cons o l ih => exact ih (h.op o)
theorem ops_len (m : Med) (l : List Opn) : (m.ops l).l.length = m.l.length := by
  unfold Med.ops
  induction l generalizing m with
  | nil => rfl
  | cons o l ih => rw [List.foldl_cons, ih, op_len]
/-- Behind an erasure of a band: it begins at F, has z sectors, none is written. -/
theorem erased {m : Med} (h : m.Good) {k : Int} (hk : 0 ≤ k ∧ k < m.g.b) : ∃ F z : Nat, m.g.bs = (z : Int) ∧ m.g.r + k * (z : Int) = (F : Int) ∧ F + z ≤ (m.erase k).l.length ∧ z ≤ 1024 ∧ F ≤ 81920 ∧ ∀ i, i < z → ((m.erase k).sec ((F + i : Nat) : Int)).st ≠ 1 := by
  obtain ⟨h1, h2⟩ := erase_has h hk
  have hts := h.ok.ts
  have hle := h.len_le
  obtain ⟨F, hF⟩ := Int.eq_ofNat_of_zero_le h1
  obtain ⟨z, hz⟩ := Int.eq_ofNat_of_zero_le (show 0 ≤ m.g.t * m.g.s by omega)
  have he : m.eraseE k = 0 := by unfold eraseE; rw [if_pos hk]
  refine ⟨F, z, by rw [Geo.bs_ok h.ok, hz], by rw [← hz, hF], by rw [erase_len]; omega, by omega, by omega, fun i hi => ?_⟩
  rw [sec_erase h he (has_iff.2 ⟨by omega, by omega⟩), if_pos (by omega)]
  simp [Sec.blank]
end Med
end Go.Proofs.Ytmloiifnadaaoaa
