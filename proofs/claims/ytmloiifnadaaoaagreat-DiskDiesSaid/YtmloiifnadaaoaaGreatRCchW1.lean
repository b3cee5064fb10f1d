/- The walks of the reference of package cache: New, Contents, Clone, Cut, Flush, Read. -/
import Derived.Test.YtmloiifnadaaoaaGreatCchW
namespace Go.Proofs.YtmloiifnadaaoaaGreat
open Go.RowKit
set_option linter.unusedVariables false
set_option linter.unusedSimpArgs false

def NewRCache (d : Med) (l : List Opn) (w : World) (e : Ending) (w' : World) : Prop :=
  Below w.heap.size w w' ∧ ∃ pc, e = .returned (.pointer (some ⟨pc, 0, none⟩)) ∧ IsRCache w' w.heap.size pc d l

set_option maxHeartbeats 2000000 in
set_option maxRecDepth 1000000 in
theorem rcnew_any (p q n : Nat) (d : Med) (w : World) (h : IsRef w p q n d) :
    Calls Tryz.prog 60 #[.pointer (some ⟨p, 0, none⟩)] w (NewRCache d [] w) := by
  have M := Lib.hid h
  clear h
  go_enter Tryz.func60, Tryz.ntmps60
  go_wp2_with (go_at_call 73; refine (rclone_any p q n d _ M.out).mono ?_; rintro e w1 ⟨hb1, p3, q3, n3, rfl, hp3, hq3, hM3⟩; have M3 := Lib.hid hM3; clear hM3 M)
  go_ret
  have s1 := hb1.size
  have hbn : Below w1.heap.size w1 (w1.alloc (.cells #[.pointer (some ⟨p3, 0, none⟩), .slice none 0 0] 90)) := (Below.refl _ _).alloc (Nat.le_refl _) _
  exact ⟨below_alloc hb1 _, _, rfl, p3, q3, n3, _, [], heap_alloc_new _ _, M3.out.below hbn, World.ownsRow_nil _ _ _ _, (fun i o ho => by simp at ho), (fun o ho => by simp at ho), by omega⟩

theorem OpXs.short {w : World} {xs : List Value} {l : List Opn} (h : OpXs w xs l) : True := trivial

set_option maxHeartbeats 2000000 in
set_option maxRecDepth 1000000 in
theorem rcontents_any (N pd : Nat) (d : Med) (l : List Opn) (w : World) (h : IsRCache w N pd d l) (hlen : l.length ≤ 1000000) :
    Calls Tryz.prog 44 #[.pointer (some ⟨pd, 0, none⟩)] w (RCloneIs (d.ops l) w) := by
  obtain ⟨p, q, n, v, xs, h⟩ := h
  have c0 := h.c0
  have C := Lib.hid h
  have hsh := Lib.hid h.short
  clear h
  go_enter Tryz.func44, Tryz.ntmps44
  go_wp2_with (go_at_call 73; refine (rclone_any p q n d _ C.out.med).mono ?_; rintro e w1 ⟨hb1, p3, q3, n3, rfl, hp3, hq3, hM3⟩; have M3 := Lib.hid hM3; clear hM3)
  have B1 := Lib.hid hb1
  clear hb1 c0
  go_loopw [4] (fun i wr => ∃ j : Nat, j ≤ l.length ∧ i = .int .i64 j ∧ IsRef wr p3 q3 n3 (d.ops (l.take j)) ∧ Below w.heap.size w wr) (fun i _ => l.length - (intOf i).toNat)
  case atStart => exact ⟨0, Nat.zero_le _, rfl, M3.out, B1.out⟩
  case round =>
    obtain ⟨j, hj, rfl, M, F⟩ := hrel
    have Cw := Lib.hid (C.out.keepA (Fr.ofBelow F _) avoid_none)
    have c1 := Cw.out.c1
    obtain ⟨A, c, hv, _, _⟩ := Cw.out.form
    subst hv
    by_cases hjn : j < l.length
    · have ho : l[j]? = some l[j] := List.getElem?_eq_getElem hjn
      have htk : l.take (j + 1) = l.take j ++ [l[j]] := List.take_succ_eq_append_getElem hjn
      have hos := hsh.out l[j] (List.getElem_mem hjn)
      generalize l[j] = o at *
      have hsum : d.ops (l.take (j + 1)) = (d.ops (l.take j)).op o := by rw [htk, Med.ops_snoc]
      generalize d.ops (l.take j) = mj at *
      obtain ⟨g, c9, A', c', hv, hg, k0, k1, k2, hbt⟩ := Cw.out.opAt ho
      injection hv with hv1 _ _
      subst hv1
      have Hs := Lib.hid hsum
      have HM := Lib.hid M
      have HF := Lib.hid F
      have Hbt := Lib.hid hbt
      clear hsum M F htk ho hbt
      go_wp2_with (go_at_call 74; refine (rdo_any p3 q3 n3 mj o.er o.at_ o.bs A' c' _ HM.out Hbt.out.rd hos).mono ?_; rintro e w2 ⟨rfl, hM, hF⟩; have HM1 := Lib.hid hM; have HF1 := Lib.hid (HF.out.trans (hF.below_ne HF.out.size hq3)); clear hM hF)
      go_roundw
      case rel => exact ⟨j + 1, by omega, by go_num, by rw [Hs.out]; exact HM1.out, HF1.out⟩
      case measure => simp [intOf]; omega
    · have hjn' : j = l.length := by omega
      subst hjn'
      have HM := Lib.hid M
      clear M
      go_wp2_with fail
      go_ret
      exact ⟨F, p3, q3, n3, rfl, hp3, hq3, by have := HM.out; rw [List.take_length] at this; exact this⟩

end Go.Proofs.YtmloiifnadaaoaaGreat
