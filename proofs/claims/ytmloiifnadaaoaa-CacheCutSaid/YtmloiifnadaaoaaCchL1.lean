/- The walks of do, sameMedia, same, fair, start (tegulalaw12). -/
import Derived.Test.YtmloiifnadaaoaaCchW4
import Derived.Test.YtmloiifnadaaoaaRCchW3
import Derived.Test.YtmloiifnadaaoaaStpH
namespace Go.Proofs.Ytmloiifnadaaoaa
open Go.RowKit
set_option linter.unusedVariables false
set_option linter.unusedSimpArgs false

set_option maxHeartbeats 1000000 in
set_option maxRecDepth 1000000 in
theorem do12_any (N pc : Nat) (d : Med) (l : List Opn) (er : Bool) (at_ : Int) (bs : List UInt8) (A : Option Addr) (c : Nat) (w : World) (h : IsCache w N pc d l) (hl : BytesRd w A bs) (hbs : bs.length ≤ 140737488351232) (hlen : l.length ≤ 1000000) :
    Calls Try.prog 71 #[.pointer (some ⟨pc, 0, none⟩), .agg #[.bool er, .int .i64 at_, .slice A bs.length c]] w (DoIs N pc d l ⟨er, at_, bs⟩ w) := by
  have hb0 : Below w.heap.size w (w.alloc (.cells #[.bool er, .int .i64 at_, .slice A bs.length c] 50)) := (Below.refl _ _).alloc (Nat.le_refl _) _
  have H := Lib.hid (h.below hb0)
  have HL := Lib.hid (hl.below hb0)
  have HB := Lib.hid hb0
  clear h hl hb0
  cases er with
  | true =>
    go_enter Try.func71, Try.ntmps71
    go_wp2_with (go_at_call 80; refine (cerase_any N pc d l at_ bs _ H.out hlen).mono ?_; rintro e w1 ⟨rfl, hC, hF⟩; have HC := Lib.hid hC; have HF := Lib.hid hF; clear hC hF)
    go_ret
    exact ⟨rfl, HC.out, (FrT.ofBelow HB.out).trans HF.out⟩
  | false =>
    go_enter Try.func71, Try.ntmps71
    go_wp2_with (go_at_call 63; refine (cwrite_any N pc d l at_ A bs c _ H.out HL.out hbs hlen).mono ?_; rintro e w1 ⟨rfl, hC, hF⟩; have HC := Lib.hid hC; have HF := Lib.hid hF; clear hC hF)
    go_ret
    exact ⟨rfl, HC.out, (FrT.ofBelow HB.out).trans HF.out⟩

set_option maxHeartbeats 4000000 in
set_option maxRecDepth 1000000 in
theorem sameMedia_any (p q cap p' q' cap' : Nat) (m : Med) (w : World) (hM : IsMed w p q cap m) (hR : IsRef w p' q' cap' m) :
    Calls Try.prog 65 #[.pointer (some ⟨p, 0, none⟩), .pointer (some ⟨p', 0, none⟩)] w fun e w' => e = .returned (.bool true) ∧ Below w.heap.size w w' := by
  have hle := hM.good.len_le
  have HM := Lib.hid hM
  have HR := Lib.hid hR
  clear hM hR
  go_enter Try.func65, Try.ntmps65
  go_wp2_with fail
  go_loopw [5] (fun i wr => ∃ j : Nat, j ≤ m.l.length + 2 ∧ i = .int .i64 ((j : Int) - 1) ∧ Below w.heap.size w wr) (fun i _ => m.l.length + 2 - (intOf i + 1).toNat)
  case atStart => exact ⟨0, by omega, by go_num, Below.refl _ _⟩
  case round =>
    obtain ⟨j, hj, rfl, hb⟩ := hrel
    have M := Lib.hid (HM.out.below hb)
    have R := Lib.hid (HR.out.below hb)
    have d5 := (HR.out.below hb).c5
    by_cases hjn : j < m.l.length + 2
    · generalize ha : (j : Int) - 1 = a at *
      have ha1 : -1 ≤ a := by omega
      have ha2 : a ≤ m.l.length := by omega
      have hj1 : a = (j : Int) - 1 := ha.symm
      have Hj1 := Lib.hid hj1
      clear ha hj1
      go_wp2_with (first | (go_at_call 48; refine (read_any p q cap m a _ M.out).mono ?_; rintro e w1 ⟨A1, x1, rfl, hb1, hB1⟩; have R1 := Lib.hid (R.out.below hB1); have D1 := Lib.hid hB1; have Y1 := Lib.hid hb1; clear hb1 hB1) | (go_at_call 113; refine (rread_any p' q' cap' m a _ R1.out).mono ?_; rintro e w2 ⟨A2, x2, rfl, hb2, hB2⟩; have R2 := Lib.hid (R1.out.below hB2); have D2 := Lib.hid (below_of hB2 D1.out); have t1 := toStr_of (Y1.out.rd.below hB2) x1; have t2 := toStr_of hb2.rd x2; have M2 := Lib.hid (M.out.below D2.out); clear hb2 hB2) | (go_at_call 52; refine (state_any p q cap m a _ M2.out).mono ?_; rintro e w' ⟨rfl, rfl⟩) | (go_at_call 114; refine (rstate_any p' q' cap' m a _ R2.out).mono ?_; rintro e w' ⟨rfl, rfl⟩))
      go_roundw
      case rel => exact ⟨j + 1, by omega, by have := Hj1.out; go_num, below_of D2.out hb⟩
      case measure => have := Hj1.out; simp [intOf]; omega
    · go_wp2_with fail
      go_ret
      exact ⟨rfl, hb⟩

set_option maxHeartbeats 4000000 in
set_option maxRecDepth 1000000 in
theorem same12_any (N M pc pd : Nat) (d : Med) (l : List Opn) (w : World) (hC : IsCache w N pc d l) (hD : IsRCache w M pd d l) (hlen : l.length ≤ 1000000) :
    Calls Try.prog 69 #[.pointer (some ⟨pc, 0, none⟩), .pointer (some ⟨pd, 0, none⟩)] w fun e w' => e = .returned (.bool true) ∧ Below w.heap.size w w' := by
  have HC := Lib.hid hC
  have HD := Lib.hid hD
  have hle : (d.ops l).l.length ≤ 81920 := by obtain ⟨_, _, _, _, _, _, _, _, hC⟩ := hC; exact hC.con.good.len_le
  clear hC hD
  obtain ⟨m, hm⟩ : ∃ m, d.ops l = m := ⟨_, rfl⟩
  rw [hm] at hle
  have Hm := Lib.hid hm
  clear hm
  go_enter Try.func69, Try.ntmps69
  go_wp2_with (go_at_call 73; refine (rcontents_any M pd d l _ HD.out hlen).mono ?_; rintro e w0 ⟨hb0, p', q', n', rfl, hp', hq', hR⟩; rw [Hm.out] at hR; have R0 := Lib.hid hR; have B0 := Lib.hid hb0; clear hR hb0)
  go_loopw [6] (fun i wr => ∃ j : Nat, j ≤ m.l.length + 2 ∧ i = .int .i64 ((j : Int) - 1) ∧ Below w0.heap.size w0 wr) (fun i _ => m.l.length + 2 - (intOf i + 1).toNat)
  case atStart => exact ⟨0, by omega, by go_num, Below.refl _ _⟩
  case round =>
    obtain ⟨j, hj, rfl, hb⟩ := hrel
    have C := Lib.hid (HC.out.below (below_of hb B0.out))
    have D := Lib.hid (HD.out.below (below_of hb B0.out))
    have R := Lib.hid (R0.out.below hb)
    have d5 := (R0.out.below hb).c5
    by_cases hjn : j < m.l.length + 2
    · generalize ha : (j : Int) - 1 = a at *
      have ha1 : -1 ≤ a := by omega
      have ha2 : a ≤ m.l.length := by omega
      have hj1 : a = (j : Int) - 1 := ha.symm
      have Hj1 := Lib.hid hj1
      clear ha hj1
      go_wp2_with (first | (go_at_call 78; refine (cread_any N pc d l a _ C.out).mono ?_; rintro e w1 ⟨A1, x1, rfl, hb1, hB1⟩; rw [Hm.out] at hb1 ⊢; have R1 := Lib.hid (R.out.below hB1); have D1 := Lib.hid hB1; have Y1 := Lib.hid hb1; clear hb1 hB1) | (go_at_call 113; refine (rread_any p' q' n' m a _ R1.out).mono ?_; rintro e w2 ⟨A2, x2, rfl, hb2, hB2⟩; have R2 := Lib.hid (R1.out.below hB2); have D2 := Lib.hid (below_of hB2 D1.out); have t1 := toStr_of (Y1.out.rd.below hB2) x1; have t2 := toStr_of hb2.rd x2; have C2 := Lib.hid (C.out.below D2.out); clear hb2 hB2) | (go_at_call 79; refine (cstate_any N pc d l a _ C2.out).mono ?_; rintro e w3 ⟨rfl, rfl⟩; rw [Hm.out]) | (go_at_call 114; refine (rstate_any p' q' n' m a _ R2.out).mono ?_; rintro e w' ⟨rfl, rfl⟩))
      go_roundw
      case rel => exact ⟨j + 1, by omega, by have := Hj1.out; go_num, below_of D2.out hb⟩
      case measure => have := Hj1.out; simp [intOf]; omega
    · have BW := Lib.hid (below_of hb B0.out)
      obtain ⟨p, q, n, v, xs, hD⟩ := D.out
      have c0 := hD.c0
      have c1 := hD.c1
      have hpl := hD.hasC.lt
      obtain ⟨A, c, hv, _, _⟩ := hD.form
      subst hv
      have RM := Lib.hid hD.med.drew
      have CD := Lib.hid (C.out.below (Below.refl _ _).drew)
      clear hD hb
      go_wp2_with fail
      go_region_held3 (fun W_ => (∀ b_ o_, b_ < (wr).heap.size → W_.cell? ⟨b_, o_, none⟩ = (wr).cell? ⟨b_, o_, none⟩) ∧ (∀ b_ o_, b_ < (wr).heap.size → W_.frozen? ⟨b_, o_, none⟩ = (wr).frozen? ⟨b_, o_, none⟩) ∧ (∀ k_, k_ < (wr).heap.size → k_ < W_.heap.size) ∧ Below (wr).heap.size (wr) W_) (first | exact held_start _ | assumption | exact held_keep (by assumption) (by assumption) | exact held_keep (by assumption) ((Below.refl _ _).alloc (Nat.le_refl _) _) | exact held_of (by assumption)) (first | (go_at_call 66; refine (cpending_any N pc d l _ CD.out).mono ?_; rintro e w' ⟨rfl, rfl⟩) | (go_at_call 74; refine (cdurable_any N pc d l _ CD.out).mono ?_; rintro e w3 ⟨hb3, p3, q3, n3, rfl, hp3, hq3, hM3⟩; have M3 := Lib.hid hM3; have RM3 := Lib.hid (RM.out.below hb3); clear hM3) | (go_at_call 65; refine (sameMedia_any p3 q3 n3 p q n d _ M3.out RM3.out).mono ?_; rintro e w4 ⟨rfl, hb4⟩))
      all_goals (try go_wp2)
      all_goals go_ret
      all_goals exact ⟨rfl, by have h1 := below_of hb4 (below_undrew hb3); exact below_of h1 BW.out⟩
end Go.Proofs.Ytmloiifnadaaoaa
