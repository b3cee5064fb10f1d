/- The walks of the reference of package cache: Do. -/
import Derived.Test.YtmloiifnadaaoaaGreatRCchW2
import Derived.Test.YtmloiifnadaaoaaGreatMedL3
import Derived.Deep.RegionLaw
namespace Go.Proofs.YtmloiifnadaaoaaGreat
open Go.RowKit
set_option linter.unusedVariables false
set_option linter.unusedSimpArgs false

/-- append of a slice that may be nil, as one step of a region that draws its order. -/
theorem step_append_any {P : Program} {ops : Array Oper} {o : Oper} {a : Act} {w : World} {K : Act → World → Prop} {Q : Exit → Act → World → Prop} {E : Prop}
    (hg : o.guard = none) (s x : Operand) (t : TypeId) (hop : o.op = Op.call { callee := Callee.builtin Builtin.append, args := #[s, x], argTypes := #[t, t] })
    (base : Nat) (e : TypeId) (i : TypeInfo) (z : Value) (size bytes : Nat) (h1 : P.underlying t = some (.slice e)) (h2 : P.info? e = some i) (h3 : i.zero = some z) (h4 : i.size = size) (h5 : i.bytes = bytes) (h6 : z.cells.size = size) (h7 : 0 < size)
    (v : Value) (n : Nat) (xs : List Value) (hs : a.eval s = v) (hown : w.ownsRow base e size v n xs)
    (A : Option Addr) (m c : Nat) (news : List Value) (hx : a.eval x = .slice A m c) (hn : news.length = m * size) (hnil : A = none → m = 0) (hc : CellsRd w A news) (h1c : ∀ u ∈ news, u.oneCell' = true)
    (b1 : n + m ≤ maxLen) (b2 : (n + m) * bytes ≤ 140737488355328) (b3 : base ≤ w.heap.size)
    (hK : ∀ v' w', w'.ownsRow base e size v' (n + m) (xs ++ news) → w.grownBy w' v.ownBlock → (v' = .slice none 0 0 ↔ v = .slice none 0 0 ∧ m = 0) → K (a.put o.dst v') w') :
    if Region.wanted o (yielded ops a.tmps) = true then Oper.wp P o a w K Q else E := by
  cases A with
  | some ad => exact step_append_own hg s x t hop base e i z size bytes h1 h2 h3 h4 h5 h6 h7 v n xs hs hown ad m c news hx hn (hc ad rfl) h1c b1 b2 b3 hK
  | none =>
    obtain rfl := hnil rfl
    have hn0 : news = [] := List.eq_nil_of_length_eq_zero (by omega)
    subst hn0
    have hr : (Builtin.append_ #[t, t] o.type #[v, .slice none 0 c]).run P w = .ok v w := by
      rcases hown.2 with ⟨rfl, rfl⟩ | ⟨g, cap, cur, rfl, _, _, hnc, _⟩
      · simp [Builtin.append_, run_underlying h1, sizeOf, typeInfo, h2, Builtin.lenOf, Builtin.firstCells]
      · simp [Builtin.append_, run_underlying h1, sizeOf, typeInfo, h2, Builtin.lenOf, Builtin.firstCells, hnc, storeCells]
    have hw : Region.wanted o (yielded ops a.tmps) = true := by simp [Region.wanted, hg]
    rw [if_pos hw]
    unfold Oper.wp
    simp [execOp, hop, resolve, invoke, builtin, hs, hx, hr, Result.andThen]
    exact hK v w (by simpa using hown) ⟨rfl, rfl, rfl, Nat.le_refl _, fun _ _ _ => rfl⟩ (by simp)

theorem bytes_at {w w' : World} {A : Option Addr} {l : List UInt8} (h : BytesRd w A l) (hb : Below w.heap.size w w') : BytesRd w' A l := h.below hb
theorem cells_new (w : World) (xs : Array Value) (T : TypeId) : ∀ j u, xs.toList[j]? = some u → (w.alloc (.cells xs T)).cell? (Addr.add ⟨w.heap.size, 0, none⟩ j) = some u := by
  intro j u h
  rw [Addr.add_lit, Nat.zero_add, World.cell?_alloc_mark]
  simpa using h
theorem cells_new' (w : World) (xs : Array Value) (T : TypeId) (g : Nat) (hg : g = w.heap.size) : ∀ j u, xs.toList[j]? = some u → (w.alloc (.cells xs T)).cell? (Addr.add ⟨g, 0, none⟩ j) = some u := by
  subst hg
  exact cells_new w xs T
theorem owns_made' (w : World) (base g : Nat) (hg : g = w.heap.size) (h : base ≤ w.heap.size) : (w.alloc (.cells #[] 115)).ownsRow base 115 3 (.slice (some ⟨g, 0, none⟩) 0 0) 0 [] := by
  subst hg
  exact World.ownsRow_made (base := base) w #[] 0 h (by decide) rfl
theorem cells_past {w : World} {g : Nat} {xs : List Value} (h : ∀ j u, xs[j]? = some u → w.cell? (Addr.add ⟨g, 0, none⟩ j) = some u) (o : Obj) : ∀ j u, xs[j]? = some u → (w.alloc o).cell? (Addr.add ⟨g, 0, none⟩ j) = some u :=
  fun j u hj => cell_later ((Below.refl _ _).alloc (Nat.le_refl _) _) (h j u hj)
theorem cells_drew {w : World} {g : Nat} {xs : List Value} (h : ∀ j u, xs[j]? = some u → w.cell? (Addr.add ⟨g, 0, none⟩ j) = some u) : ∀ j u, xs[j]? = some u → w.drew.cell? (Addr.add ⟨g, 0, none⟩ j) = some u := h
theorem cells_kept {w w' : World} {row : Option Nat} (hg : w.grownBy w' row) {g : Nat} {xs : List Value} (h : ∀ j u, xs[j]? = some u → w.cell? (Addr.add ⟨g, 0, none⟩ j) = some u) (hlt : g < w.heap.size) (hne : row ≠ some g) : ∀ j u, xs[j]? = some u → w'.cell? (Addr.add ⟨g, 0, none⟩ j) = some u := by
  intro j u hj
  have h1 := h j u hj
  rw [Addr.add_lit] at h1 ⊢
  exact (World.cell?_of_block (hg.block g hlt (fun e => hne e.symm))).trans h1
/-- The boxed operation, its bytes copied. -/
theorem rdo_box {w w4 : World} {er : Bool} {at_ : Int} {v0 : Value} {A5 : Option Addr} {bs : List UInt8} {c5 : Nat} (hb : Below (w.alloc (.cells #[.bool er, .int .i64 at_, v0] 115)).heap.size (w.alloc (.cells #[.bool er, .int .i64 at_, v0] 115)) w4) (hbt : BytesT w4 A5 bs) :
    (w4.setCell ⟨w.heap.size, 2, none⟩ (.slice A5 bs.length c5)).cell? ⟨w.heap.size, 0, none⟩ = some (.bool er) ∧ (w4.setCell ⟨w.heap.size, 2, none⟩ (.slice A5 bs.length c5)).cell? ⟨w.heap.size, 1, none⟩ = some (.int .i64 at_) ∧
    (w4.setCell ⟨w.heap.size, 2, none⟩ (.slice A5 bs.length c5)).cell? ⟨w.heap.size, 2, none⟩ = some (.slice A5 bs.length c5) ∧ Below w.heap.size w (w4.setCell ⟨w.heap.size, 2, none⟩ (.slice A5 bs.length c5)) ∧ BytesT (w4.setCell ⟨w.heap.size, 2, none⟩ (.slice A5 bs.length c5)) A5 bs := by
  have b0 : Below w.heap.size w (w.alloc (.cells #[.bool er, .int .i64 at_, v0] 115)) := (Below.refl _ _).alloc (Nat.le_refl _) _
  have t0 : (w.alloc (.cells #[.bool er, .int .i64 at_, v0] 115)).heap[w.heap.size]? = _ := heap_alloc_new _ _
  have x0 : w4.heap[w.heap.size]? = _ := (hb.block w.heap.size (by simp)).trans t0
  have x1 := head_set x0 2 (.slice A5 bs.length c5)
  have T0 : HasT w4 w.heap.size 115 := ⟨_, _, x0⟩
  have F : Fr (· = w.heap.size) w4 (w4.setCell ⟨w.heap.size, 2, none⟩ (.slice A5 bs.length c5)) := Fr.setCell (S := fun k => k = w.heap.size) (p := ⟨w.heap.size, 2, none⟩) (Fr.refl _ w4) (.inl rfl) _
  refine ⟨by rw [cell_of_row _ _ _ _ _ _ x1]; rfl, by rw [cell_of_row _ _ _ _ _ _ x1]; rfl, by rw [cell_of_row _ _ _ _ _ _ x1]; rfl, below_set (below_of hb b0) (by simp) _, hbt.keep F (fun k hk hh => by subst hk; exact T0.ne hh (by decide) rfl)⟩
def HeldX (w : World) (pd : Nat) (er : Bool) (at_ : Int) (A5 : Option Addr) (n c5 : Nat) (w5 W : World) : Prop := W.cell? ⟨w.heap.size, 0, none⟩ = some (.bool er) ∧ W.cell? ⟨w.heap.size, 1, none⟩ = some (.int .i64 at_) ∧ W.cell? ⟨w.heap.size, 2, none⟩ = some (.slice A5 n c5) ∧ Fr (· = pd) w5 W
namespace HeldX
variable {w : World} {pd : Nat} {er : Bool} {at_ : Int} {A5 : Option Addr} {n c5 : Nat} {w5 W W' : World}
theorem drew (h : HeldX w pd er at_ A5 n c5 w5 W) : HeldX w pd er at_ A5 n c5 w5 W.drew := ⟨h.1, h.2.1, h.2.2.1, h.2.2.2.drew⟩
theorem below (h : HeldX w pd er at_ A5 n c5 w5 W) (hb : Below W.heap.size W W') : HeldX w pd er at_ A5 n c5 w5 W' := ⟨cell_later hb h.1, cell_later hb h.2.1, cell_later hb h.2.2.1, h.2.2.2.call hb⟩
theorem alloc (h : HeldX w pd er at_ A5 n c5 w5 W) (o : Obj) : HeldX w pd er at_ A5 n c5 w5 (W.alloc o) := h.below ((Below.refl _ _).alloc (Nat.le_refl _) _)
theorem call (h : HeldX w pd er at_ A5 n c5 w5 w5) (hb : Below w5.heap.size w5 W') : HeldX w pd er at_ A5 n c5 w5 W' := h.below hb
theorem set (h : HeldX w pd er at_ A5 n c5 w5 W) (hne : ¬ w.heap.size = pd) (v : Value) : HeldX w pd er at_ A5 n c5 w5 (W.setCell ⟨pd, 1, none⟩ v) :=
  ⟨by rw [World.cell?_setCell_other _ _ _ _ (fun e => hne (by injection e with e; exact e.symm))]; exact h.1, by rw [World.cell?_setCell_other _ _ _ _ (fun e => hne (by injection e with e; exact e.symm))]; exact h.2.1,
    by rw [World.cell?_setCell_other _ _ _ _ (fun e => hne (by injection e with e; exact e.symm))]; exact h.2.2.1, h.2.2.2.setCell (p := ⟨pd, 1, none⟩) (.inl rfl) _⟩
end HeldX
theorem Tryz.info_rops : (Tryz.prog.info? 115).map (fun i => (i.zero, i.size, i.bytes)) = some (some (.agg #[.bool false, .int .i64 0, .slice none 0 0]), 3, 40) := by kernel_rfl

theorem rdo_end {w w5 w7 : World} {N pd p q n : Nat} {v v7 : Value} {xs : List Value} {d : Med} {l : List Opn} {er : Bool} {at_ : Int} {bs : List UInt8} {A5 : Option Addr} {c5 : Nat} (hB5 : Below w.heap.size w w5) (hC : RCacheAt w5 N pd p q n v xs d l) (hb7 : Below w5.heap.size w5 w7) (hbt : BytesT w5 A5 bs)
    (hE : (d.ops l).opE ⟨er, at_, bs⟩ = 0) (hown : w7.ownsRow w5.heap.size 115 3 v7 (l.length + 1) (xs ++ [.bool er, .int .i64 at_, .slice A5 bs.length c5])) (hbs : bs.length ≤ 140737488351232) :
    IsRCache (w7.setCell ⟨pd, 1, none⟩ v7) N pd d (push d l ⟨er, at_, bs⟩) ∧ FrT N rcacheTs w (w7.setCell ⟨pd, 1, none⟩ v7) := by
  have C7 := hC.keepA (Fr.ofBelow hb7 (fun _ => False)) avoid_none
  have B7 := hbt.keep (Fr.ofBelow hb7 (fun _ => False)) (fun _ h => h.elim)
  rw [push_ok hE]
  have G := C7.setOps (v' := v7) (xs' := xs ++ [.bool er, .int .i64 at_, .slice A5 bs.length c5]) (l' := l ++ [⟨er, at_, bs⟩]) (by rw [List.length_append]; exact owns_mono (Nat.zero_le _) hown) (C7.ops.snoc C7.row.1 (o := ⟨er, at_, bs⟩) B7) (by
    intro o ho
    rcases List.mem_append.1 ho with h1 | h1
    · exact hC.short o h1
    · simp at h1; subst h1; exact hbs)
  exact ⟨G.1, (FrT.ofBelow (below_of hb7 hB5)).trans G.2⟩
def RDoIs (N pd : Nat) (d : Med) (l : List Opn) (o : Opn) (w : World) (e : Ending) (w' : World) : Prop :=
  e = .returned (.int .i64 ((d.ops l).opE o)) ∧ IsRCache w' N pd d (push d l o) ∧ FrT N rcacheTs w w'

set_option maxHeartbeats 8000000 in
set_option maxRecDepth 1000000 in
theorem rcdo_any (N pd : Nat) (d : Med) (l : List Opn) (er : Bool) (at_ : Int) (bs : List UInt8) (A : Option Addr) (c : Nat) (w : World) (h : IsRCache w N pd d l) (hl : BytesRd w A bs) (hbs : bs.length ≤ 140737488351232) (hlen : l.length ≤ 1000000) :
    Calls Tryz.prog 67 #[.pointer (some ⟨pd, 0, none⟩), .agg #[.bool er, .int .i64 at_, .slice A bs.length c]] w (RDoIs N pd d l ⟨er, at_, bs⟩ w) := by
  have hb0 : Below w.heap.size w (w.alloc (.cells #[.bool er, .int .i64 at_, .slice A bs.length c] 115)) := (Below.refl _ _).alloc (Nat.le_refl _) _
  have H := Lib.hid (h.below (hb0.drew))
  have HB := Lib.hid (hl.below (hb0.drew))
  have B0 := Lib.hid hb0
  have H0 := Lib.hid h
  have hbw := hl.below hb0
  have hN := h.le
  obtain ⟨i0, hinf, hz0, hz1, hz2⟩ := info_parts Tryz.info_bytes
  obtain ⟨i1, hinf1, hz01, hz11, hz21⟩ := info_parts Tryz.info_rops
  clear h hl hb0
  obtain ⟨E, hE⟩ : ∃ E, (d.ops l).opE ⟨er, at_, bs⟩ = E := ⟨_, rfl⟩
  by_cases hE0 : E = 0
  · subst hE0
    have HE := Lib.hid hE
    clear hE
    go_enter Tryz.func67, Tryz.ntmps67
    go_wp2_with fail
    go_region_held3 (fun W_ => (∀ b_ o_, b_ < (w.alloc (.cells #[.bool er, .int .i64 at_, .slice A bs.length c] 115)).heap.size → W_.cell? ⟨b_, o_, none⟩ = (w.alloc (.cells #[.bool er, .int .i64 at_, .slice A bs.length c] 115)).cell? ⟨b_, o_, none⟩) ∧ (∀ b_ o_, b_ < (w.alloc (.cells #[.bool er, .int .i64 at_, .slice A bs.length c] 115)).heap.size → W_.frozen? ⟨b_, o_, none⟩ = (w.alloc (.cells #[.bool er, .int .i64 at_, .slice A bs.length c] 115)).frozen? ⟨b_, o_, none⟩) ∧ (∀ k_, k_ < (w.alloc (.cells #[.bool er, .int .i64 at_, .slice A bs.length c] 115)).heap.size → k_ < W_.heap.size) ∧ Below (w.alloc (.cells #[.bool er, .int .i64 at_, .slice A bs.length c] 115)).heap.size (w.alloc (.cells #[.bool er, .int .i64 at_, .slice A bs.length c] 115)) W_) (first | exact held_start _ | assumption | exact held_keep (by assumption) (by assumption) | exact held_keep (by assumption) ((Below.refl _ _).alloc (Nat.le_refl _) _) | exact held_of (by assumption)) (first | (go_at_call 44; refine (rcontents_any N pd d l _ H.out hlen).mono ?_; rintro e w1 ⟨hb1, p3, q3, n3, rfl, hp3, hq3, hM3⟩; have M3 := Lib.hid hM3; have HB1 := Lib.hid (HB.out.below hb1); have hb1' := below_undrew hb1; clear hM3 hb1) | (go_at_call 74; refine (rdo_any p3 q3 n3 (d.ops l) er at_ bs A c _ M3.out HB1.out hbs).mono ?_; rintro e w2 ⟨rfl, hM4, hF4⟩; rw [HE.out]; have hb2 := below_fr hb1' hF4 hq3; have Hb2 := Lib.hid hb2; have HB2 := Lib.hid (bytes_at hbw hb2); clear hM4 hF4))
    obtain ⟨hc2, hf2, hz2'⟩ := bcell hb2
    go_wp2_with (at_builtin; refine wpList_append_any rfl _ _ 53 rfl w2.heap.size 5 i0 (.int .u8 0) 1 1 Tryz.underlying53 hinf hz0 hz1 hz2 rfl (by decide) _ _ _ rfl (World.ownsRow_made w2 #[] 0 (Nat.le_refl _) (by decide) rfl) A bs.length c (byteVals bs) rfl ?c0 ?cn ?c1 (byteVals_one bs) ?c3 ?c4 ?c5 ?_)
    case c0 => rw [byteVals_len]; omega
    case cn => exact HB.out.nil
    case c1 => exact (((HB2.out).below ((Below.refl _ _).alloc (Nat.le_refl _) _))).cells
    case c3 => unfold maxLen; omega
    case c4 => omega
    case c5 => simp
    intro v4 w4 hown4 hgrow4 _
    have hb4 : Below w2.heap.size w2 w4 := Below.grown ((Below.refl _ _).alloc (Nat.le_refl _) _) hgrow4 (by simp) (fun k hk => by simp [Value.ownBlock] at hk; omega)
    have B4 := below_of hb4 Hb2.out
    obtain ⟨A5, c5, rfl, hbt4⟩ := bytesT_of_row (show w4.ownsRow w2.heap.size 5 1 v4 bs.length (byteVals bs) by simpa using hown4)
    have HX := Lib.hid (rdo_box (c5 := c5) B4 hbt4)
    clear hown4 hgrow4 hc2 hf2 hz2' hb4 hbt4 HB1 HB2 M3 hb1' hb2 Hb2
    obtain ⟨hc4, hf4, hz4⟩ := bcell B4
    go_wp2_with fail
    clear hc4 hf4 hz4
    revert HX
    generalize w4.setCell ⟨w.heap.size, 2, none⟩ (.slice A5 bs.length c5) = w5
    intro HX
    obtain ⟨z0, z1, z2, hB5, hbt5⟩ := HX.out
    have zs : w.heap.size < w5.heap.size := World.block_lt_of_cell? _ _ z0
    obtain ⟨p, q, n, v, xs, C⟩ := H0.out.below hB5
    obtain ⟨A0, c0, hv, hcr, hnil⟩ := C.form
    subst hv
    have c1 := C.c1
    obtain ⟨hpl, hfz⟩ := C.cells
    have Hx := Lib.hid (show xs.length = l.length * 3 from C.row.1)
    have H1 := Lib.hid (C.ops.one C.row.1)
    have Hcr := Lib.hid hcr
    have Hnil := Lib.hid hnil
    have HC := Lib.hid C
    have HB5 := Lib.hid hB5
    have Hbt5 := Lib.hid hbt5
    have hpe : ¬ w.heap.size = pd := by have := H0.out.lt; omega
    have HX0 := Lib.hid (show HeldX w pd er at_ A5 bs.length c5 w5 w5 from ⟨z0, z1, z2, Fr.refl _ _⟩)
    clear HX C hcr hnil hB5 hbt5 B4
    go_region_law (first | (refine step_append_any rfl (.tmp 19) (.tmp 23) 88 rfl w5.heap.size 115 i1 _ 3 40 Tryz.underlying88 hinf1 hz01 hz11 hz21 rfl (by decide) _ 0 [] rfl ?_ A0 l.length c0 xs rfl Hx.out Hnil.out ?_ H1.out ?_ ?_ ?_ ?_; (first | exact owns_made' _ _ _ (by simp) (by simp) | exact (owns_made' _ _ _ (by simp) (by simp)).alloc _); (exact Hcr.out.below (by repeat (first | (with_reducible exact Below.refl _ _) | (with_reducible refine Below.drew ?_) | (with_reducible refine below_drw ?_ _) | (with_reducible refine below_alloc ?_ _) | (with_reducible refine below_set ?_ (by simp <;> omega) _) | (refine below_of (by assumption) ?_)))); (unfold maxLen; omega); (omega); (simp; try omega); intro v6 w6 hown hgrow _; have hb6 : Below w5.heap.size w5 w6 := Below.grown (by repeat (first | (with_reducible exact Below.refl _ _) | (with_reducible refine Below.drew ?_) | (with_reducible refine below_drw ?_ _) | (with_reducible refine below_alloc ?_ _) | (with_reducible refine below_set ?_ (by simp <;> omega) _) | (refine below_of (by assumption) ?_))) hgrow (by simp; try omega) (fun k hk => by injection hk with hk; subst hk; simp); have hown2 : w6.ownsRow w5.heap.size 115 3 v6 l.length xs := (by rw [Nat.zero_add, List.nil_append] at hown; exact hown); have hgrow' : World.grownBy _ w6 (some _) := hgrow; have HG6 := Lib.hid hgrow'; clear hgrow'; clear hown hgrow; obtain ⟨A6, c6, rfl⟩ := owns_slice hown2; have Hown := Lib.hid hown2; clear hown2; obtain ⟨hc6, hf6, hz6⟩ := bcell hb6) | (refine step_append_own rfl (.tmp 24) (.tmp 26) 88 rfl w5.heap.size 115 i1 _ 3 40 Tryz.underlying88 hinf1 hz01 hz11 hz21 rfl (by decide) _ l.length xs rfl ?_ _ 1 1 [.bool er, .int .i64 at_, .slice A5 bs.length c5] rfl rfl ?_ ?_ ?_ ?_ ?_ ?_; (first | exact Hown.out | exact Hown.out.alloc _); (first | exact cells_new' _ _ _ _ (by simp) | exact cells_kept HG6.out (cells_drew (cells_new' _ _ _ _ (by simp))) (by simp <;> omega) (by simp <;> omega) | exact cells_kept HG6.out (cells_drew (cells_past (cells_new' _ _ _ _ (by simp)) _)) (by simp <;> omega) (by simp <;> omega)); (intro u hu; simp at hu; rcases hu with rfl | rfl | rfl <;> rfl); (unfold maxLen; omega); (omega); (have := hb6.size; simp; try omega); intro v7 w7 hown hgrow _; have hb7 : Below w5.heap.size w5 w7 := Below.grown (by first | exact hb6 | exact below_alloc hb6 _) hgrow (by have := hb6.size; simp; try omega) (fun k hk => (owns_own Hown.out k hk).1); obtain ⟨A7, c7, rfl⟩ := owns_slice hown; have Hown7 := Lib.hid hown; clear hown hgrow; clear hc6 hf6 hz6; obtain ⟨hc7, hf7, hz7⟩ := bcell hb7))
    all_goals (try go_wp2)
    all_goals go_ret
    all_goals (have HG := rdo_end HB5.out HC.out hb7 Hbt5.out HE.out Hown7.out hbs)
    all_goals exact ⟨by rw [HE.out] <;> rfl, HG.1, HG.2⟩
  · have HE := Lib.hid hE
    have X1 : (E != 0) = true := by simpa using hE0
    have HE0 := Lib.hid hE0
    clear hE hE0
    go_enter Tryz.func67, Tryz.ntmps67
    go_wp2_with fail
    go_region_held3 (fun W_ => (∀ b_ o_, b_ < (w.alloc (.cells #[.bool er, .int .i64 at_, .slice A bs.length c] 115)).heap.size → W_.cell? ⟨b_, o_, none⟩ = (w.alloc (.cells #[.bool er, .int .i64 at_, .slice A bs.length c] 115)).cell? ⟨b_, o_, none⟩) ∧ (∀ b_ o_, b_ < (w.alloc (.cells #[.bool er, .int .i64 at_, .slice A bs.length c] 115)).heap.size → W_.frozen? ⟨b_, o_, none⟩ = (w.alloc (.cells #[.bool er, .int .i64 at_, .slice A bs.length c] 115)).frozen? ⟨b_, o_, none⟩) ∧ (∀ k_, k_ < (w.alloc (.cells #[.bool er, .int .i64 at_, .slice A bs.length c] 115)).heap.size → k_ < W_.heap.size) ∧ Below (w.alloc (.cells #[.bool er, .int .i64 at_, .slice A bs.length c] 115)).heap.size (w.alloc (.cells #[.bool er, .int .i64 at_, .slice A bs.length c] 115)) W_) (first | exact held_start _ | assumption | exact held_keep (by assumption) (by assumption) | exact held_keep (by assumption) ((Below.refl _ _).alloc (Nat.le_refl _) _) | exact held_of (by assumption)) (first | (go_at_call 44; refine (rcontents_any N pd d l _ H.out hlen).mono ?_; rintro e w1 ⟨hb1, p3, q3, n3, rfl, hp3, hq3, hM3⟩; have M3 := Lib.hid hM3; have HB1 := Lib.hid (HB.out.below hb1); have hb1' := below_undrew hb1; clear hM3 hb1) | (go_at_call 74; refine (rdo_any p3 q3 n3 (d.ops l) er at_ bs A c _ M3.out HB1.out hbs).mono ?_; rintro e w2 ⟨rfl, hM4, hF4⟩; rw [HE.out]; have hb2 := below_fr hb1' hF4 hq3; clear hM4 hF4))
    all_goals (try go_wp2)
    all_goals go_ret
    all_goals (have hb3 := below_of hb2 B0.out)
    all_goals exact ⟨by rw [HE.out] <;> rfl, by rw [push_bad (fun h => HE0.out (HE.out.symm.trans h))]; exact H0.out.below hb3, FrT.ofBelow hb3⟩
end Go.Proofs.YtmloiifnadaaoaaGreat
