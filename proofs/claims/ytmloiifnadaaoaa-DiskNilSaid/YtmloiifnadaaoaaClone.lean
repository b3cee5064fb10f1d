/- The walks of slices.Clone at the four types that occur: bytes, sectors, operations, faults. -/
import Derived.Test.YtmloiifnadaaoaaMedH
import Derived.Lib.SliceRun
namespace Go.Proofs.Ytmloiifnadaaoaa
open Go.RowKit
set_option linter.unusedVariables false
set_option linter.unusedSimpArgs false

/-- The cells behind A read as xs. -/
def CellsRd (w : World) (A : Option Addr) (xs : List Value) : Prop := ∀ a, A = some a → ∀ j u, xs[j]? = some u → w.cell? (a.add j) = some u
theorem CellsRd.below {w w' : World} {A : Option Addr} {xs : List Value} (h : CellsRd w A xs) (hb : Below w.heap.size w w') : CellsRd w' A xs := fun a ha j u hu => cell_later hb (h a ha j u hu)

theorem Try.info_bytes : (Try.prog.info? 5).map (fun i => (i.zero, i.size, i.bytes)) = some (some (.int .u8 0), 1, 1) := by kernel_rfl

set_option maxHeartbeats 1000000 in
set_option maxRecDepth 1000000 in
theorem clone_bytes (A : Option Addr) (n c : Nat) (xs : List Value) (w : World) (hx : xs.length = n * 1) (h : CellsRd w A xs) (h1 : ∀ u ∈ xs, u.oneCell' = true) (hn : n * 1 ≤ 140737488351232) (hnil : A = none → n = 0) :
    Calls Try.prog 112 #[.slice A n c] w fun e w' => ∃ v, e = .returned v ∧ w'.ownsRow w.heap.size 5 1 v n xs ∧ Below w.heap.size w w' ∧ (v = .slice none 0 0 ↔ A = none) := by
  have qT : ∀ (w : World) (a : Option Addr) (n c n' c' : Nat), (binOp .eql 38 (.slice a n c) (.slice none n' c')).run Try.prog w = .ok (.bool a.isNone) w := fun w a n c n' c' => Lib.run_eql_slice_nil w _ _ a n c n' c' Try.underlying38
  obtain ⟨i0, hinf, hz0, hz1, hz2⟩ := info_parts Try.info_bytes
  cases A with
  | none =>
    obtain rfl := hnil rfl
    have hxs : xs = [] := List.eq_nil_of_length_eq_zero (by omega)
    subst hxs
    go_enter Try.func112, Try.ntmps112
    go_wp2
    go_ret
    exact ⟨_, rfl, World.ownsRow_nil _ _ _ _, (by repeat (first | (with_reducible exact Below.refl _ _) | (with_reducible refine Below.drew ?_) | (with_reducible refine below_drw ?_ _) | (with_reducible refine below_alloc ?_ _) | (with_reducible refine below_set ?_ (by simp <;> omega) _) | (refine below_of (by assumption) ?_))), by simp⟩
  | some a =>
    have H := Lib.hid (h a rfl)
    have Hx := Lib.hid hx
    have H1 := Lib.hid h1
    have hn' : n ≤ 140737488351232 := by omega
    clear h hx h1 hnil
    go_enter Try.func112, Try.ntmps112
    go_wp2_with (at_builtin; refine wpList_append_own _ rfl _ _ 38 rfl w.heap.size 5 i0 (.int .u8 0) 1 1 Try.underlying38 hinf hz0 hz1 hz2 rfl (by decide) _ _ _ rfl (World.ownsRow_made w #[] 0 (Nat.le_refl _) (by decide) rfl) a n c xs rfl Hx.out ?c1 H1.out ?c3 ?c4 ?c5 ?_)
    case c1 => exact fun j u hj => cell_later ((Below.refl _ _).alloc (Nat.le_refl _) _) (H.out j u hj)
    case c3 => unfold maxLen; omega
    case c4 => omega
    case c5 => simp
    intro v' w' hown hgrow hnil'
    have hb : Below w.heap.size w w' := ((Below.refl _ _).alloc (Nat.le_refl _) _).grown hgrow (by simp) (fun k hk => by simp [Value.ownBlock] at hk; omega)
    have hown2 : w'.ownsRow w.heap.size 5 1 v' n xs := by simpa using hown
    have Hown := Lib.hid hown2
    have Hnil := Lib.hid hnil'
    clear hown hown2 hgrow hnil'
    go_wp2
    go_ret
    exact ⟨_, rfl, Hown.out, hb, ⟨fun h => absurd h Hnil.out, fun h => by cases h⟩⟩

theorem Try.info_sectors : (Try.prog.info? 139).map (fun i => (i.zero, i.size, i.bytes)) = some (some (.agg #[.int .i64 0, .slice none 0 0]), 2, 32) := by kernel_rfl

set_option maxHeartbeats 1000000 in
set_option maxRecDepth 1000000 in
theorem clone_sectors (A : Option Addr) (n c : Nat) (xs : List Value) (w : World) (hx : xs.length = n * 2) (h : CellsRd w A xs) (h1 : ∀ u ∈ xs, u.oneCell' = true) (hn : n * 32 ≤ 140737488351232) (hnil : A = none → n = 0) :
    Calls Try.prog 115 #[.slice A n c] w fun e w' => ∃ v, e = .returned v ∧ w'.ownsRow w.heap.size 139 2 v n xs ∧ Below w.heap.size w w' ∧ (v = .slice none 0 0 ↔ A = none) := by
  have qT : ∀ (w : World) (a : Option Addr) (n c n' c' : Nat), (binOp .eql 134 (.slice a n c) (.slice none n' c')).run Try.prog w = .ok (.bool a.isNone) w := fun w a n c n' c' => Lib.run_eql_slice_nil w _ _ a n c n' c' Try.underlying134
  obtain ⟨i0, hinf, hz0, hz1, hz2⟩ := info_parts Try.info_sectors
  cases A with
  | none =>
    obtain rfl := hnil rfl
    have hxs : xs = [] := List.eq_nil_of_length_eq_zero (by omega)
    subst hxs
    go_enter Try.func115, Try.ntmps115
    go_wp2
    go_ret
    exact ⟨_, rfl, World.ownsRow_nil _ _ _ _, (by repeat (first | (with_reducible exact Below.refl _ _) | (with_reducible refine Below.drew ?_) | (with_reducible refine below_drw ?_ _) | (with_reducible refine below_alloc ?_ _) | (with_reducible refine below_set ?_ (by simp <;> omega) _) | (refine below_of (by assumption) ?_))), by simp⟩
  | some a =>
    have H := Lib.hid (h a rfl)
    have Hx := Lib.hid hx
    have H1 := Lib.hid h1
    have hn' : n ≤ 140737488351232 := by omega
    clear h hx h1 hnil
    go_enter Try.func115, Try.ntmps115
    go_wp2_with (at_builtin; refine wpList_append_own _ rfl _ _ 134 rfl w.heap.size 139 i0 (.agg #[.int .i64 0, .slice none 0 0]) 2 32 Try.underlying134 hinf hz0 hz1 hz2 rfl (by decide) _ _ _ rfl (World.ownsRow_made w #[] 0 (Nat.le_refl _) (by decide) rfl) a n c xs rfl Hx.out ?c1 H1.out ?c3 ?c4 ?c5 ?_)
    case c1 => exact fun j u hj => cell_later ((Below.refl _ _).alloc (Nat.le_refl _) _) (H.out j u hj)
    case c3 => unfold maxLen; omega
    case c4 => omega
    case c5 => simp
    intro v' w' hown hgrow hnil'
    have hb : Below w.heap.size w w' := ((Below.refl _ _).alloc (Nat.le_refl _) _).grown hgrow (by simp) (fun k hk => by simp [Value.ownBlock] at hk; omega)
    have hown2 : w'.ownsRow w.heap.size 139 2 v' n xs := by simpa using hown
    have Hown := Lib.hid hown2
    have Hnil := Lib.hid hnil'
    clear hown hown2 hgrow hnil'
    go_wp2
    go_ret
    exact ⟨_, rfl, Hown.out, hb, ⟨fun h => absurd h Hnil.out, fun h => by cases h⟩⟩

theorem Try.info_opers : (Try.prog.info? 149).map (fun i => (i.zero, i.size, i.bytes)) = some (some (.nilFunc), 1, 8) := by kernel_rfl

set_option maxHeartbeats 1000000 in
set_option maxRecDepth 1000000 in
theorem clone_opers (A : Option Addr) (n c : Nat) (xs : List Value) (w : World) (hx : xs.length = n * 1) (h : CellsRd w A xs) (h1 : ∀ u ∈ xs, u.oneCell' = true) (hn : n * 8 ≤ 140737488351232) (hnil : A = none → n = 0) :
    Calls Try.prog 121 #[.slice A n c] w fun e w' => ∃ v, e = .returned v ∧ w'.ownsRow w.heap.size 149 1 v n xs ∧ Below w.heap.size w w' ∧ (v = .slice none 0 0 ↔ A = none) := by
  have qT : ∀ (w : World) (a : Option Addr) (n c n' c' : Nat), (binOp .eql 144 (.slice a n c) (.slice none n' c')).run Try.prog w = .ok (.bool a.isNone) w := fun w a n c n' c' => Lib.run_eql_slice_nil w _ _ a n c n' c' Try.underlying144
  obtain ⟨i0, hinf, hz0, hz1, hz2⟩ := info_parts Try.info_opers
  cases A with
  | none =>
    obtain rfl := hnil rfl
    have hxs : xs = [] := List.eq_nil_of_length_eq_zero (by omega)
    subst hxs
    go_enter Try.func121, Try.ntmps121
    go_wp2
    go_ret
    exact ⟨_, rfl, World.ownsRow_nil _ _ _ _, (by repeat (first | (with_reducible exact Below.refl _ _) | (with_reducible refine Below.drew ?_) | (with_reducible refine below_drw ?_ _) | (with_reducible refine below_alloc ?_ _) | (with_reducible refine below_set ?_ (by simp <;> omega) _) | (refine below_of (by assumption) ?_))), by simp⟩
  | some a =>
    have H := Lib.hid (h a rfl)
    have Hx := Lib.hid hx
    have H1 := Lib.hid h1
    have hn' : n ≤ 140737488351232 := by omega
    clear h hx h1 hnil
    go_enter Try.func121, Try.ntmps121
    go_wp2_with (at_builtin; refine wpList_append_own _ rfl _ _ 144 rfl w.heap.size 149 i0 (.nilFunc) 1 8 Try.underlying144 hinf hz0 hz1 hz2 rfl (by decide) _ _ _ rfl (World.ownsRow_made w #[] 0 (Nat.le_refl _) (by decide) rfl) a n c xs rfl Hx.out ?c1 H1.out ?c3 ?c4 ?c5 ?_)
    case c1 => exact fun j u hj => cell_later ((Below.refl _ _).alloc (Nat.le_refl _) _) (H.out j u hj)
    case c3 => unfold maxLen; omega
    case c4 => omega
    case c5 => simp
    intro v' w' hown hgrow hnil'
    have hb : Below w.heap.size w w' := ((Below.refl _ _).alloc (Nat.le_refl _) _).grown hgrow (by simp) (fun k hk => by simp [Value.ownBlock] at hk; omega)
    have hown2 : w'.ownsRow w.heap.size 149 1 v' n xs := by simpa using hown
    have Hown := Lib.hid hown2
    have Hnil := Lib.hid hnil'
    clear hown hown2 hgrow hnil'
    go_wp2
    go_ret
    exact ⟨_, rfl, Hown.out, hb, ⟨fun h => absurd h Hnil.out, fun h => by cases h⟩⟩

theorem Try.info_faults : (Try.prog.info? 152).map (fun i => (i.zero, i.size, i.bytes)) = some (some (.agg #[.int .i64 0, .int .i64 0, .int .i64 0]), 3, 24) := by kernel_rfl

set_option maxHeartbeats 1000000 in
set_option maxRecDepth 1000000 in
theorem clone_faults (A : Option Addr) (n c : Nat) (xs : List Value) (w : World) (hx : xs.length = n * 3) (h : CellsRd w A xs) (h1 : ∀ u ∈ xs, u.oneCell' = true) (hn : n * 24 ≤ 140737488351232) (hnil : A = none → n = 0) :
    Calls Try.prog 124 #[.slice A n c] w fun e w' => ∃ v, e = .returned v ∧ w'.ownsRow w.heap.size 152 3 v n xs ∧ Below w.heap.size w w' ∧ (v = .slice none 0 0 ↔ A = none) := by
  have qT : ∀ (w : World) (a : Option Addr) (n c n' c' : Nat), (binOp .eql 88 (.slice a n c) (.slice none n' c')).run Try.prog w = .ok (.bool a.isNone) w := fun w a n c n' c' => Lib.run_eql_slice_nil w _ _ a n c n' c' Try.underlying88
  obtain ⟨i0, hinf, hz0, hz1, hz2⟩ := info_parts Try.info_faults
  cases A with
  | none =>
    obtain rfl := hnil rfl
    have hxs : xs = [] := List.eq_nil_of_length_eq_zero (by omega)
    subst hxs
    go_enter Try.func124, Try.ntmps124
    go_wp2
    go_ret
    exact ⟨_, rfl, World.ownsRow_nil _ _ _ _, (by repeat (first | (with_reducible exact Below.refl _ _) | (with_reducible refine Below.drew ?_) | (with_reducible refine below_drw ?_ _) | (with_reducible refine below_alloc ?_ _) | (with_reducible refine below_set ?_ (by simp <;> omega) _) | (refine below_of (by assumption) ?_))), by simp⟩
  | some a =>
    have H := Lib.hid (h a rfl)
    have Hx := Lib.hid hx
    have H1 := Lib.hid h1
    have hn' : n ≤ 140737488351232 := by omega
    clear h hx h1 hnil
    go_enter Try.func124, Try.ntmps124
    go_wp2_with (at_builtin; refine wpList_append_own _ rfl _ _ 88 rfl w.heap.size 152 i0 (.agg #[.int .i64 0, .int .i64 0, .int .i64 0]) 3 24 Try.underlying88 hinf hz0 hz1 hz2 rfl (by decide) _ _ _ rfl (World.ownsRow_made w #[] 0 (Nat.le_refl _) (by decide) rfl) a n c xs rfl Hx.out ?c1 H1.out ?c3 ?c4 ?c5 ?_)
    case c1 => exact fun j u hj => cell_later ((Below.refl _ _).alloc (Nat.le_refl _) _) (H.out j u hj)
    case c3 => unfold maxLen; omega
    case c4 => omega
    case c5 => simp
    intro v' w' hown hgrow hnil'
    have hb : Below w.heap.size w w' := ((Below.refl _ _).alloc (Nat.le_refl _) _).grown hgrow (by simp) (fun k hk => by simp [Value.ownBlock] at hk; omega)
    have hown2 : w'.ownsRow w.heap.size 152 3 v' n xs := by simpa using hown
    have Hown := Lib.hid hown2
    have Hnil := Lib.hid hnil'
    clear hown hown2 hgrow hnil'
    go_wp2
    go_ret
    exact ⟨_, rfl, Hown.out, hb, ⟨fun h => absurd h Hnil.out, fun h => by cases h⟩⟩

end Go.Proofs.Ytmloiifnadaaoaa
