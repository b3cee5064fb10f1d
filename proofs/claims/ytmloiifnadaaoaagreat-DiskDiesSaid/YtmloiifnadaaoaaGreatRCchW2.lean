/- The walks of the reference of package cache: Cut, Flush. -/
import Derived.Test.YtmloiifnadaaoaaGreatRCchW1
namespace Go.Proofs.YtmloiifnadaaoaaGreat
open Go.RowKit
set_option linter.unusedVariables false
set_option linter.unusedSimpArgs false

/-- What stands when the sectors have turned. -/
theorem RCacheAt.turned {w w1 : World} {N pd p q n : Nat} {v : Value} {xs : List Value} {d D : Med} {l : List Opn} (h : RCacheAt w N pd p q n v xs d l) (hF : Fr (· = q) w w1) (hM : IsRef w1 p q n D) :
    RCacheAt w1 N pd p q n v xs D l ∧ FrT N rcacheTs w w1 := by
  have A1 : Avoid (· = q) w [90, 94, 5, 115] := avoid_one h.med.hasQ (by decide)
  exact ⟨⟨(hF.block pd h.hasC.lt (A1.not h.hasC (by simp))).trans h.head, hM, owns_frame' h.row hF (A1.sub (by simp)), h.ops.keepA hF (A1.sub (by simp)), h.short, h.le⟩, FrT.ofOne hF h.med.hasQ (by decide) h.le.2.2⟩
theorem RCacheAt.cells {w : World} {N pd p q n : Nat} {v : Value} {xs : List Value} {d : Med} {l : List Opn} (h : RCacheAt w N pd p q n v xs d l) : pd < w.heap.size ∧ w.frozen? ⟨pd, 1, none⟩ = false := ⟨h.hasC.lt, by simp [World.frozen?, h.head]⟩
theorem RCacheAt.setOps {w : World} {N pd p q n : Nat} {v : Value} {xs : List Value} {d : Med} {l : List Opn} (h : RCacheAt w N pd p q n v xs d l) {v' : Value} {xs' : List Value} {l' : List Opn} (hr : w.ownsRow 0 115 3 v' l'.length xs') (ho : OpXs w xs' l') (hs : ∀ o ∈ l', o.bs.length ≤ 140737488351232) :
    IsRCache (w.setCell ⟨pd, 1, none⟩ v') N pd d l' ∧ FrT N rcacheTs w (w.setCell ⟨pd, 1, none⟩ v') := by
  have F : Fr (· = pd) w (w.setCell ⟨pd, 1, none⟩ v') := Fr.setCell (S := fun k => k = pd) (p := ⟨pd, 1, none⟩) (Fr.refl _ w) (.inl rfl) _
  have A1 : Avoid (· = pd) w [94, 123, 115, 5] := avoid_one h.hasC (by decide)
  exact ⟨⟨p, q, n, v', xs', head_set h.head 1 _, h.med.keepA F (A1.sub (by simp)), owns_frame' hr F (A1.sub (by simp)), ho.keepA F (A1.sub (by simp)), hs, h.le⟩, FrT.ofOne F h.hasC (by decide) h.le.1⟩

def HeldR (pd g i : Nat) (x0 x1 y0 y1 y2 : Value) (W : World) : Prop := W.cell? ⟨pd, 0, none⟩ = some x0 ∧ W.cell? ⟨pd, 1, none⟩ = some x1 ∧ W.cell? ⟨g, i, none⟩ = some y0 ∧ W.cell? ⟨g, i + 1, none⟩ = some y1 ∧ W.cell? ⟨g, i + 2, none⟩ = some y2
theorem HeldR.keep {pd g i q : Nat} {x0 x1 y0 y1 y2 : Value} {W W' : World} (h : HeldR pd g i x0 x1 y0 y1 y2 W) (hF : Fr (· = q) W W') (h1 : pd ≠ q) (h2 : g ≠ q) : HeldR pd g i x0 x1 y0 y1 y2 W' :=
  ⟨hF.cell h.1 h1, hF.cell h.2.1 h1, hF.cell h.2.2.1 h2, hF.cell h.2.2.2.1 h2, hF.cell h.2.2.2.2 h2⟩

set_option maxHeartbeats 4000000 in
set_option maxRecDepth 1000000 in
theorem rccut_any (N pd : Nat) (d : Med) (l : List Opn) (keep : Int) (w : World) (h : IsRCache w N pd d l) (hlen : l.length ≤ 1000000) :
    Calls Tryz.prog 70 #[.pointer (some ⟨pd, 0, none⟩), .int .i64 keep] w fun e w' => e = .returned (.tuple #[]) ∧ IsRCache w' N pd (d.ops (l.take (keepN keep l))) [] ∧ FrT N rcacheTs w w' := by
  obtain ⟨p, q, n, v, xs, h⟩ := h
  have C := Lib.hid h
  have hsh := Lib.hid h.short
  obtain ⟨A, c, rfl, _, _⟩ := h.form
  have hkl : keepN keep l ≤ l.length := Nat.min_le_right _ _
  have hkk : ∀ j : Nat, j < l.length → (j < keepN keep l ↔ (j : Int) < keep) := fun j hj => by unfold keepN; omega
  generalize keepN keep l = k at *
  have Hkk := Lib.hid hkk
  have M0 := Lib.hid h.med
  clear h hkk
  go_enter Tryz.func70, Tryz.ntmps70
  go_wp2_with fail
  go_loopw [4] (fun i wr => ∃ j : Nat, j ≤ k ∧ i = .int .i64 j ∧ IsRef wr p q n (d.ops (l.take j)) ∧ Fr (· = q) w wr) (fun i _ => k - (intOf i).toNat)
  case atStart => exact ⟨0, Nat.zero_le _, rfl, M0.out, Fr.refl _ _⟩
  case round =>
    obtain ⟨j, hj, rfl, M, F⟩ := hrel
    have Cw := Lib.hid (C.out.turned F M).1
    have c0 := Cw.out.c0
    have c1 := Cw.out.c1
    obtain ⟨hpl, hfz⟩ := Cw.out.cells
    by_cases hjn : j < k
    · have hjl : j < l.length := by omega
      have hjk : (j : Int) < keep := (Hkk.out j hjl).1 hjn
      have ho : l[j]? = some l[j] := List.getElem?_eq_getElem hjl
      have htk : l.take (j + 1) = l.take j ++ [l[j]] := List.take_succ_eq_append_getElem hjl
      have hos := hsh.out l[j] (List.getElem_mem hjl)
      generalize l[j] = o at *
      have hsum : d.ops (l.take (j + 1)) = (d.ops (l.take j)).op o := by rw [htk, Med.ops_snoc]
      generalize d.ops (l.take j) = mj at *
      obtain ⟨g, c9, A', c', hv, hg, k0, k1, k2, hbt⟩ := Cw.out.opAt ho
      injection hv with hv1 _ hv3
      subst hv1
      subst hv3
      have hpq : pd ≠ q := Cw.out.hasC.ne M.hasQ (by decide)
      have hgq : g ≠ q := hg.ne M.hasQ (by decide)
      have Hs := Lib.hid hsum
      have HM := Lib.hid M.drew
      have HF := Lib.hid F.drew
      have Hbt := Lib.hid (hbt.rd.below (Below.refl _ _).drew)
      have HH := Lib.hid (show HeldR pd g (j * 3) _ _ _ _ _ wr.drew from ⟨c0, c1, k0, k1, k2⟩)
      clear hsum M F htk ho hbt
      go_wp2_with fail
      go_region_held3 (fun W_ => W_.cell? ⟨pd, 0, none⟩ = some (.pointer (some ⟨p, 0, none⟩)) ∧ W_.cell? ⟨pd, 1, none⟩ = some (.slice (some ⟨g, 0, none⟩) l.length c) ∧ W_.cell? ⟨g, j * 3, none⟩ = some (.bool o.er) ∧ W_.cell? ⟨g, j * 3 + 1, none⟩ = some (.int .i64 o.at_) ∧ W_.cell? ⟨g, j * 3 + 2, none⟩ = some (.slice A' o.bs.length c')) (first | exact HH.out | exact HeldR.keep (by assumption) (by assumption) hpq hgq) (first | (go_at_call 74; refine (rdo_any p q n mj o.er o.at_ o.bs A' c' _ HM.out Hbt.out hos).mono ?_; rintro e w2 ⟨rfl, hM, hF⟩; have HM1 := Lib.hid hM; have HF1 := Lib.hid (HF.out.trans hF); clear hM))
      all_goals (try go_wp2)
      all_goals go_roundw
      case rel => exact ⟨j + 1, by omega, by go_num, by rw [Hs.out]; exact HM1.out, HF1.out⟩
      case measure => simp [intOf]; omega
    · have hjk : j = k := by omega
      have HG := Lib.hid ((Cw.out.setOps (v' := .slice none 0 0) (xs' := []) (l' := []) (World.ownsRow_nil _ _ _ _) (fun i o ho => by simp at ho) (fun o ho => by simp at ho)))
      have HF := Lib.hid (C.out.turned F M).2
      have HJ := Lib.hid hjk
      clear M F
      by_cases hjl : j < l.length
      · have hnk : ¬ (j : Int) < keep := fun hh => hjn ((Hkk.out j hjl).2 hh)
        clear hjk
        go_wp2_with fail
        go_end0
        exact ⟨rfl, by rw [← HJ.out]; exact HG.out.1, HF.out.trans HG.out.2⟩
      · have hnl : ¬ (j : Int) < (l.length : Int) := by omega
        clear hjk
        go_wp2_with fail
        go_end0
        exact ⟨rfl, by rw [← HJ.out]; exact HG.out.1, HF.out.trans HG.out.2⟩

set_option maxHeartbeats 1000000 in
theorem rcflush_any (N pd : Nat) (d : Med) (l : List Opn) (w : World) (h : IsRCache w N pd d l) (hlen : l.length ≤ 1000000) :
    Calls Tryz.prog 68 #[.pointer (some ⟨pd, 0, none⟩)] w fun e w' => e = .returned (.tuple #[]) ∧ IsRCache w' N pd (d.ops l) [] ∧ FrT N rcacheTs w w' := by
  have H := Lib.hid h
  obtain ⟨p, q, n, v, xs, h⟩ := h
  have c1 := h.c1
  obtain ⟨A, c, rfl, _, _⟩ := h.form
  have hk : l.take (keepN (l.length : Int) l) = l := by unfold keepN; rw [Int.toNat_natCast, Nat.min_self, List.take_length]
  have Hk := Lib.hid hk
  clear h hk
  go_enter Tryz.func68, Tryz.ntmps68
  go_wp2_with (go_at_call 70; refine (rccut_any N pd d l _ _ H.out hlen).mono ?_; rintro e w1 ⟨rfl, hC, hF⟩; rw [Hk.out] at hC; have HC := Lib.hid hC; have HF := Lib.hid hF; clear hC hF)
  go_end0
  exact ⟨rfl, HC.out, HF.out⟩
end Go.Proofs.YtmloiifnadaaoaaGreat
