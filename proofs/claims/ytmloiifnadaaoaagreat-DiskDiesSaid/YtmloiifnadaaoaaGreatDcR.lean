/- The walks of the reference of package cache, the caches told apart by a predicate: Cut, Flush. -/
import Derived.Test.YtmloiifnadaaoaaGreatDcH
import Derived.Test.YtmloiifnadaaoaaGreatRCchW2
import Derived.Test.YtmloiifnadaaoaaGreatRCchW3
namespace Go.Proofs.YtmloiifnadaaoaaGreat
open Go.RowKit
set_option linter.unusedVariables false
set_option linter.unusedSimpArgs false

/-- What stands when the sectors have turned. -/
theorem RGacheAt.turned {w w1 : World} {G : Nat → Prop} {pd p q n : Nat} {v : Value} {xs : List Value} {d D : Med} {l : List Opn} (h : RGacheAt w G pd p q n v xs d l) (hF : Fr (· = q) w w1) (hM : IsRef w1 p q n D) :
    RGacheAt w1 G pd p q n v xs D l ∧ FrG G rcacheTs w w1 := by
  have A1 : Avoid (· = q) w [90, 94, 5, 115] := avoid_one h.med.hasQ (by decide)
  exact ⟨⟨(hF.block pd h.hasC.lt (A1.not h.hasC (by simp))).trans h.head, hM, owns_frame' h.row hF (A1.sub (by simp)), h.ops.keepA hF (A1.sub (by simp)), h.short, h.le⟩, FrG.ofOne hF h.med.hasQ (by decide) h.le.2⟩
theorem RGacheAt.cells {w : World} {G : Nat → Prop} {pd p q n : Nat} {v : Value} {xs : List Value} {d : Med} {l : List Opn} (h : RGacheAt w G pd p q n v xs d l) : pd < w.heap.size ∧ w.frozen? ⟨pd, 1, none⟩ = false := ⟨h.hasC.lt, by simp [World.frozen?, h.head]⟩
theorem RGacheAt.setOps {w : World} {G : Nat → Prop} {pd p q n : Nat} {v : Value} {xs : List Value} {d : Med} {l : List Opn} (h : RGacheAt w G pd p q n v xs d l) {v' : Value} {xs' : List Value} {l' : List Opn} (hr : w.ownsRow 0 115 3 v' l'.length xs') (ho : OpXs w xs' l') (hs : ∀ o ∈ l', o.bs.length ≤ 140737488351232) :
    IsRGache (w.setCell ⟨pd, 1, none⟩ v') G pd d l' ∧ FrG G rcacheTs w (w.setCell ⟨pd, 1, none⟩ v') := by
  have F : Fr (· = pd) w (w.setCell ⟨pd, 1, none⟩ v') := Fr.setCell (S := fun k => k = pd) (p := ⟨pd, 1, none⟩) (Fr.refl _ w) (.inl rfl) _
  have A1 : Avoid (· = pd) w [94, 123, 115, 5] := avoid_one h.hasC (by decide)
  exact ⟨⟨p, q, n, v', xs', head_set h.head 1 _, h.med.keepA F (A1.sub (by simp)), owns_frame' hr F (A1.sub (by simp)), ho.keepA F (A1.sub (by simp)), hs, h.le⟩, FrG.ofOne F h.hasC (by decide) h.le.1⟩

set_option maxHeartbeats 4000000 in
set_option maxRecDepth 1000000 in
theorem grcut_any (G : Nat → Prop) (pd : Nat) (d : Med) (l : List Opn) (keep : Int) (w : World) (h : IsRGache w G pd d l) (hlen : l.length ≤ 1000000) :
    Calls Tryz.prog 70 #[.pointer (some ⟨pd, 0, none⟩), .int .i64 keep] w fun e w' => e = .returned (.tuple #[]) ∧ IsRGache w' G pd (d.ops (l.take (keepN keep l))) [] ∧ FrG G rcacheTs w w' := by
  obtain ⟨p, q, n, v, xs, h⟩ := h
  have C := Lib.hid h
  have hsh := Lib.hid h.short
  obtain ⟨A, c, rfl, _, _⟩ := h.toC.form
  have hkl : keepN keep l ≤ l.length := Nat.min_le_right _ _
  have hkk : ∀ j : Nat, j < l.length → (j < keepN keep l ↔ (j : Int) < keep) := fun j hj => by unfold keepN; omega
  generalize keepN keep l = k at *
  have Hkk := Lib.hid hkk
  have M0 := Lib.hid h.med
  clear h hkk
  go_enter Tryz.func70, Tryz.ntmps70
  go_wp2_with fail
  go_loopw [4] (fun i wr => ∃ j : Nat, j ≤ k ∧ i = .int .i64 j ∧ IsRef wr p q n (d.ops (l.take j)) ∧ Fr (· = q) w wr) (fun i _ => k - (intOf i).toNat)
  case atStart => exact ⟨0, Nat.zero_le _, rfl, M0.out, Fr.refl _ _⟩
  case round =>
    obtain ⟨j, hj, rfl, M, F⟩ := hrel
    have Cw := Lib.hid (C.out.turned F M).1
    have c0 := Cw.out.c0
    have c1 := Cw.out.c1
    obtain ⟨hpl, hfz⟩ := Cw.out.cells
    by_cases hjn : j < k
    · have hjl : j < l.length := by omega
      have hjk : (j : Int) < keep := (Hkk.out j hjl).1 hjn
      have ho : l[j]? = some l[j] := List.getElem?_eq_getElem hjl
      have htk : l.take (j + 1) = l.take j ++ [l[j]] := List.take_succ_eq_append_getElem hjl
      have hos := hsh.out l[j] (List.getElem_mem hjl)
      generalize l[j] = o at *
      have hsum : d.ops (l.take (j + 1)) = (d.ops (l.take j)).op o := by rw [htk, Med.ops_snoc]
      generalize d.ops (l.take j) = mj at *
      obtain ⟨g, c9, A', c', hv, hg, k0, k1, k2, hbt⟩ := Cw.out.toC.opAt ho
      injection hv with hv1 _ hv3
      subst hv1
      subst hv3
      have hpq : pd ≠ q := Cw.out.hasC.ne M.hasQ (by decide)
      have hgq : g ≠ q := hg.ne M.hasQ (by decide)
      have Hs := Lib.hid hsum
      have HM := Lib.hid M.drew
      have HF := Lib.hid F.drew
      have Hbt := Lib.hid (hbt.rd.below (Below.refl _ _).drew)
      have HH := Lib.hid (show HeldR pd g (j * 3) _ _ _ _ _ wr.drew from ⟨c0, c1, k0, k1, k2⟩)
      clear hsum M F htk ho hbt
      go_wp2_with fail
      go_region_held3 (fun W_ => W_.cell? ⟨pd, 0, none⟩ = some (.pointer (some ⟨p, 0, none⟩)) ∧ W_.cell? ⟨pd, 1, none⟩ = some (.slice (some ⟨g, 0, none⟩) l.length c) ∧ W_.cell? ⟨g, j * 3, none⟩ = some (.bool o.er) ∧ W_.cell? ⟨g, j * 3 + 1, none⟩ = some (.int .i64 o.at_) ∧ W_.cell? ⟨g, j * 3 + 2, none⟩ = some (.slice A' o.bs.length c')) (first | exact HH.out | exact HeldR.keep (by assumption) (by assumption) hpq hgq) (first | (go_at_call 74; refine (rdo_any p q n mj o.er o.at_ o.bs A' c' _ HM.out Hbt.out hos).mono ?_; rintro e w2 ⟨rfl, hM, hF⟩; have HM1 := Lib.hid hM; have HF1 := Lib.hid (HF.out.trans hF); clear hM))
      all_goals (try go_wp2)
      all_goals go_roundw
      case rel => exact ⟨j + 1, by omega, by go_num, by rw [Hs.out]; exact HM1.out, HF1.out⟩
      case measure => simp [intOf]; omega
    · have hjk : j = k := by omega
      have HG := Lib.hid ((Cw.out.setOps (v' := .slice none 0 0) (xs' := []) (l' := []) (World.ownsRow_nil _ _ _ _) (fun i o ho => by simp at ho) (fun o ho => by simp at ho)))
      have HF := Lib.hid (C.out.turned F M).2
      have HJ := Lib.hid hjk
      clear M F
      by_cases hjl : j < l.length
      · have hnk : ¬ (j : Int) < keep := fun hh => hjn ((Hkk.out j hjl).2 hh)
        clear hjk
        go_wp2_with fail
        go_end0
        exact ⟨rfl, by rw [← HJ.out]; exact HG.out.1, HF.out.trans HG.out.2⟩
      · have hnl : ¬ (j : Int) < (l.length : Int) := by omega
        clear hjk
        go_wp2_with fail
        go_end0
        exact ⟨rfl, by rw [← HJ.out]; exact HG.out.1, HF.out.trans HG.out.2⟩

set_option maxHeartbeats 1000000 in
theorem grflush_any (G : Nat → Prop) (pd : Nat) (d : Med) (l : List Opn) (w : World) (h : IsRGache w G pd d l) (hlen : l.length ≤ 1000000) :
    Calls Tryz.prog 68 #[.pointer (some ⟨pd, 0, none⟩)] w fun e w' => e = .returned (.tuple #[]) ∧ IsRGache w' G pd (d.ops l) [] ∧ FrG G rcacheTs w w' := by
  have H := Lib.hid h
  obtain ⟨p, q, n, v, xs, h⟩ := h
  have c1 := h.c1
  obtain ⟨A, c, rfl, _, _⟩ := h.toC.form
  have hk : l.take (keepN (l.length : Int) l) = l := by unfold keepN; rw [Int.toNat_natCast, Nat.min_self, List.take_length]
  have Hk := Lib.hid hk
  clear h hk
  go_enter Tryz.func68, Tryz.ntmps68
  go_wp2_with (go_at_call 70; refine (grcut_any G pd d l _ _ H.out hlen).mono ?_; rintro e w1 ⟨rfl, hC, hF⟩; rw [Hk.out] at hC; have HC := Lib.hid hC; have HF := Lib.hid hF; clear hC hF)
  go_end0
  exact ⟨rfl, HC.out, HF.out⟩
end Go.Proofs.YtmloiifnadaaoaaGreat
/- The walks of the reference of package cache, the caches told apart by a predicate: Do. -/
namespace Go.Proofs.YtmloiifnadaaoaaGreat
open Go.RowKit
set_option linter.unusedVariables false
set_option linter.unusedSimpArgs false

theorem grdo_end {w w5 w7 : World} {G : Nat → Prop} {pd p q n : Nat} {v v7 : Value} {xs : List Value} {d : Med} {l : List Opn} {er : Bool} {at_ : Int} {bs : List UInt8} {A5 : Option Addr} {c5 : Nat} (hB5 : Below w.heap.size w w5) (hC : RGacheAt w5 G pd p q n v xs d l) (hb7 : Below w5.heap.size w5 w7) (hbt : BytesT w5 A5 bs)
    (hE : (d.ops l).opE ⟨er, at_, bs⟩ = 0) (hown : w7.ownsRow w5.heap.size 115 3 v7 (l.length + 1) (xs ++ [.bool er, .int .i64 at_, .slice A5 bs.length c5])) (hbs : bs.length ≤ 140737488351232) :
    IsRGache (w7.setCell ⟨pd, 1, none⟩ v7) G pd d (push d l ⟨er, at_, bs⟩) ∧ FrG G rcacheTs w (w7.setCell ⟨pd, 1, none⟩ v7) := by
  have C7 := hC.keepA (Fr.ofBelow hb7 (fun _ => False)) avoid_none
  have B7 := hbt.keep (Fr.ofBelow hb7 (fun _ => False)) (fun _ h => h.elim)
  rw [push_ok hE]
  have G := C7.setOps (v' := v7) (xs' := xs ++ [.bool er, .int .i64 at_, .slice A5 bs.length c5]) (l' := l ++ [⟨er, at_, bs⟩]) (by rw [List.length_append]; exact owns_mono (Nat.zero_le _) hown) (C7.ops.snoc C7.row.1 (o := ⟨er, at_, bs⟩) B7) (by
    intro o ho
    rcases List.mem_append.1 ho with h1 | h1
    · exact hC.short o h1
    · simp at h1; subst h1; exact hbs)
  exact ⟨G.1, (FrG.ofBelow (below_of hb7 hB5)).trans G.2⟩
def GRdoIs (G : Nat → Prop) (pd : Nat) (d : Med) (l : List Opn) (o : Opn) (w : World) (e : Ending) (w' : World) : Prop :=
  e = .returned (.int .i64 ((d.ops l).opE o)) ∧ IsRGache w' G pd d (push d l o) ∧ FrG G rcacheTs w w'

set_option maxHeartbeats 8000000 in
set_option maxRecDepth 1000000 in
theorem grdo_any (G : Nat → Prop) (pd : Nat) (d : Med) (l : List Opn) (er : Bool) (at_ : Int) (bs : List UInt8) (A : Option Addr) (c : Nat) (w : World) (h : IsRGache w G pd d l) (hl : BytesRd w A bs) (hbs : bs.length ≤ 140737488351232) (hlen : l.length ≤ 1000000) :
    Calls Tryz.prog 67 #[.pointer (some ⟨pd, 0, none⟩), .agg #[.bool er, .int .i64 at_, .slice A bs.length c]] w (GRdoIs G pd d l ⟨er, at_, bs⟩ w) := by
  have hb0 : Below w.heap.size w (w.alloc (.cells #[.bool er, .int .i64 at_, .slice A bs.length c] 115)) := (Below.refl _ _).alloc (Nat.le_refl _) _
  have H := Lib.hid (h.below (hb0.drew))
  have HB := Lib.hid (hl.below (hb0.drew))
  have B0 := Lib.hid hb0
  have H0 := Lib.hid h
  have hbw := hl.below hb0
  have hltpd : pd < w.heap.size := h.toC.lt
  obtain ⟨i0, hinf, hz0, hz1, hz2⟩ := info_parts Tryz.info_bytes
  obtain ⟨i1, hinf1, hz01, hz11, hz21⟩ := info_parts Tryz.info_rops
  clear h hl hb0
  obtain ⟨E, hE⟩ : ∃ E, (d.ops l).opE ⟨er, at_, bs⟩ = E := ⟨_, rfl⟩
  by_cases hE0 : E = 0
  · subst hE0
    have HE := Lib.hid hE
    clear hE
    go_enter Tryz.func67, Tryz.ntmps67
    go_wp2_with fail
    go_region_held3 (fun W_ => (∀ b_ o_, b_ < (w.alloc (.cells #[.bool er, .int .i64 at_, .slice A bs.length c] 115)).heap.size → W_.cell? ⟨b_, o_, none⟩ = (w.alloc (.cells #[.bool er, .int .i64 at_, .slice A bs.length c] 115)).cell? ⟨b_, o_, none⟩) ∧ (∀ b_ o_, b_ < (w.alloc (.cells #[.bool er, .int .i64 at_, .slice A bs.length c] 115)).heap.size → W_.frozen? ⟨b_, o_, none⟩ = (w.alloc (.cells #[.bool er, .int .i64 at_, .slice A bs.length c] 115)).frozen? ⟨b_, o_, none⟩) ∧ (∀ k_, k_ < (w.alloc (.cells #[.bool er, .int .i64 at_, .slice A bs.length c] 115)).heap.size → k_ < W_.heap.size) ∧ Below (w.alloc (.cells #[.bool er, .int .i64 at_, .slice A bs.length c] 115)).heap.size (w.alloc (.cells #[.bool er, .int .i64 at_, .slice A bs.length c] 115)) W_) (first | exact held_start _ | assumption | exact held_keep (by assumption) (by assumption) | exact held_keep (by assumption) ((Below.refl _ _).alloc (Nat.le_refl _) _) | exact held_of (by assumption)) (first | (go_at_call 44; refine (rcontents_any 0 pd d l _ H.out.toC hlen).mono ?_; rintro e w1 ⟨hb1, p3, q3, n3, rfl, hp3, hq3, hM3⟩; have M3 := Lib.hid hM3; have HB1 := Lib.hid (HB.out.below hb1); have hb1' := below_undrew hb1; clear hM3 hb1) | (go_at_call 74; refine (rdo_any p3 q3 n3 (d.ops l) er at_ bs A c _ M3.out HB1.out hbs).mono ?_; rintro e w2 ⟨rfl, hM4, hF4⟩; rw [HE.out]; have hb2 := below_fr hb1' hF4 hq3; have Hb2 := Lib.hid hb2; have HB2 := Lib.hid (bytes_at hbw hb2); clear hM4 hF4))
    obtain ⟨hc2, hf2, hz2'⟩ := bcell hb2
    go_wp2_with (at_builtin; refine wpList_append_any rfl _ _ 53 rfl w2.heap.size 5 i0 (.int .u8 0) 1 1 Tryz.underlying53 hinf hz0 hz1 hz2 rfl (by decide) _ _ _ rfl (World.ownsRow_made w2 #[] 0 (Nat.le_refl _) (by decide) rfl) A bs.length c (byteVals bs) rfl ?c0 ?cn ?c1 (byteVals_one bs) ?c3 ?c4 ?c5 ?_)
    case c0 => rw [byteVals_len]; omega
    case cn => exact HB.out.nil
    case c1 => exact (((HB2.out).below ((Below.refl _ _).alloc (Nat.le_refl _) _))).cells
    case c3 => unfold maxLen; omega
    case c4 => omega
    case c5 => simp
    intro v4 w4 hown4 hgrow4 _
    have hb4 : Below w2.heap.size w2 w4 := Below.grown ((Below.refl _ _).alloc (Nat.le_refl _) _) hgrow4 (by simp) (fun k hk => by simp [Value.ownBlock] at hk; omega)
    have B4 := below_of hb4 Hb2.out
    obtain ⟨A5, c5, rfl, hbt4⟩ := bytesT_of_row (show w4.ownsRow w2.heap.size 5 1 v4 bs.length (byteVals bs) by simpa using hown4)
    have HX := Lib.hid (rdo_box (c5 := c5) B4 hbt4)
    clear hown4 hgrow4 hc2 hf2 hz2' hb4 hbt4 HB1 HB2 M3 hb1' hb2 Hb2
    obtain ⟨hc4, hf4, hz4⟩ := bcell B4
    go_wp2_with fail
    clear hc4 hf4 hz4
    revert HX
    generalize w4.setCell ⟨w.heap.size, 2, none⟩ (.slice A5 bs.length c5) = w5
    intro HX
    obtain ⟨z0, z1, z2, hB5, hbt5⟩ := HX.out
    have zs : w.heap.size < w5.heap.size := World.block_lt_of_cell? _ _ z0
    obtain ⟨p, q, n, v, xs, C⟩ := H0.out.below hB5
    obtain ⟨A0, c0, hv, hcr, hnil⟩ := C.toC.form
    subst hv
    have c1 := C.c1
    obtain ⟨hpl, hfz⟩ := C.cells
    have Hx := Lib.hid (show xs.length = l.length * 3 from C.row.1)
    have H1 := Lib.hid (C.ops.one C.row.1)
    have Hcr := Lib.hid hcr
    have Hnil := Lib.hid hnil
    have HC := Lib.hid C
    have HB5 := Lib.hid hB5
    have Hbt5 := Lib.hid hbt5
    have hpe : ¬ w.heap.size = pd := by omega
    have HX0 := Lib.hid (show HeldX w pd er at_ A5 bs.length c5 w5 w5 from ⟨z0, z1, z2, Fr.refl _ _⟩)
    clear HX C hcr hnil hB5 hbt5 B4
    go_region_law (first | (refine step_append_any rfl (.tmp 19) (.tmp 23) 88 rfl w5.heap.size 115 i1 _ 3 40 Tryz.underlying88 hinf1 hz01 hz11 hz21 rfl (by decide) _ 0 [] rfl ?_ A0 l.length c0 xs rfl Hx.out Hnil.out ?_ H1.out ?_ ?_ ?_ ?_; (first | exact owns_made' _ _ _ (by simp) (by simp) | exact (owns_made' _ _ _ (by simp) (by simp)).alloc _); (exact Hcr.out.below (by repeat (first | (with_reducible exact Below.refl _ _) | (with_reducible refine Below.drew ?_) | (with_reducible refine below_drw ?_ _) | (with_reducible refine below_alloc ?_ _) | (with_reducible refine below_set ?_ (by simp <;> omega) _) | (refine below_of (by assumption) ?_)))); (unfold maxLen; omega); (omega); (simp; try omega); intro v6 w6 hown hgrow _; have hb6 : Below w5.heap.size w5 w6 := Below.grown (by repeat (first | (with_reducible exact Below.refl _ _) | (with_reducible refine Below.drew ?_) | (with_reducible refine below_drw ?_ _) | (with_reducible refine below_alloc ?_ _) | (with_reducible refine below_set ?_ (by simp <;> omega) _) | (refine below_of (by assumption) ?_))) hgrow (by simp; try omega) (fun k hk => by injection hk with hk; subst hk; simp); have hown2 : w6.ownsRow w5.heap.size 115 3 v6 l.length xs := (by rw [Nat.zero_add, List.nil_append] at hown; exact hown); have hgrow' : World.grownBy _ w6 (some _) := hgrow; have HG6 := Lib.hid hgrow'; clear hgrow'; clear hown hgrow; obtain ⟨A6, c6, rfl⟩ := owns_slice hown2; have Hown := Lib.hid hown2; clear hown2; obtain ⟨hc6, hf6, hz6⟩ := bcell hb6) | (refine step_append_own rfl (.tmp 24) (.tmp 26) 88 rfl w5.heap.size 115 i1 _ 3 40 Tryz.underlying88 hinf1 hz01 hz11 hz21 rfl (by decide) _ l.length xs rfl ?_ _ 1 1 [.bool er, .int .i64 at_, .slice A5 bs.length c5] rfl rfl ?_ ?_ ?_ ?_ ?_ ?_; (first | exact Hown.out | exact Hown.out.alloc _); (first | exact cells_new' _ _ _ _ (by simp) | exact cells_kept HG6.out (cells_drew (cells_new' _ _ _ _ (by simp))) (by simp <;> omega) (by simp <;> omega) | exact cells_kept HG6.out (cells_drew (cells_past (cells_new' _ _ _ _ (by simp)) _)) (by simp <;> omega) (by simp <;> omega)); (intro u hu; simp at hu; rcases hu with rfl | rfl | rfl <;> rfl); (unfold maxLen; omega); (omega); (have := hb6.size; simp; try omega); intro v7 w7 hown hgrow _; have hb7 : Below w5.heap.size w5 w7 := Below.grown (by first | exact hb6 | exact below_alloc hb6 _) hgrow (by have := hb6.size; simp; try omega) (fun k hk => (owns_own Hown.out k hk).1); obtain ⟨A7, c7, rfl⟩ := owns_slice hown; have Hown7 := Lib.hid hown; clear hown hgrow; clear hc6 hf6 hz6; obtain ⟨hc7, hf7, hz7⟩ := bcell hb7))
    all_goals (try go_wp2)
    all_goals go_ret
    all_goals (have HG := grdo_end HB5.out HC.out hb7 Hbt5.out HE.out Hown7.out hbs)
    all_goals exact ⟨by rw [HE.out] <;> rfl, HG.1, HG.2⟩
  · have HE := Lib.hid hE
    have X1 : (E != 0) = true := by simpa using hE0
    have HE0 := Lib.hid hE0
    clear hE hE0
    go_enter Tryz.func67, Tryz.ntmps67
    go_wp2_with fail
    go_region_held3 (fun W_ => (∀ b_ o_, b_ < (w.alloc (.cells #[.bool er, .int .i64 at_, .slice A bs.length c] 115)).heap.size → W_.cell? ⟨b_, o_, none⟩ = (w.alloc (.cells #[.bool er, .int .i64 at_, .slice A bs.length c] 115)).cell? ⟨b_, o_, none⟩) ∧ (∀ b_ o_, b_ < (w.alloc (.cells #[.bool er, .int .i64 at_, .slice A bs.length c] 115)).heap.size → W_.frozen? ⟨b_, o_, none⟩ = (w.alloc (.cells #[.bool er, .int .i64 at_, .slice A bs.length c] 115)).frozen? ⟨b_, o_, none⟩) ∧ (∀ k_, k_ < (w.alloc (.cells #[.bool er, .int .i64 at_, .slice A bs.length c] 115)).heap.size → k_ < W_.heap.size) ∧ Below (w.alloc (.cells #[.bool er, .int .i64 at_, .slice A bs.length c] 115)).heap.size (w.alloc (.cells #[.bool er, .int .i64 at_, .slice A bs.length c] 115)) W_) (first | exact held_start _ | assumption | exact held_keep (by assumption) (by assumption) | exact held_keep (by assumption) ((Below.refl _ _).alloc (Nat.le_refl _) _) | exact held_of (by assumption)) (first | (go_at_call 44; refine (rcontents_any 0 pd d l _ H.out.toC hlen).mono ?_; rintro e w1 ⟨hb1, p3, q3, n3, rfl, hp3, hq3, hM3⟩; have M3 := Lib.hid hM3; have HB1 := Lib.hid (HB.out.below hb1); have hb1' := below_undrew hb1; clear hM3 hb1) | (go_at_call 74; refine (rdo_any p3 q3 n3 (d.ops l) er at_ bs A c _ M3.out HB1.out hbs).mono ?_; rintro e w2 ⟨rfl, hM4, hF4⟩; rw [HE.out]; have hb2 := below_fr hb1' hF4 hq3; clear hM4 hF4))
    all_goals (try go_wp2)
    all_goals go_ret
    all_goals (have hb3 := below_of hb2 B0.out)
    all_goals exact ⟨by rw [HE.out] <;> rfl, by rw [push_bad (fun h => HE0.out (HE.out.symm.trans h))]; exact H0.out.below hb3, FrG.ofBelow hb3⟩
end Go.Proofs.YtmloiifnadaaoaaGreat
