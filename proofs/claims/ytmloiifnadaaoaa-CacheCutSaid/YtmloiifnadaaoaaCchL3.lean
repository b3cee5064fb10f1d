/- The walk of play (tegulalaw12). -/
import Derived.Test.YtmloiifnadaaoaaCchL2
namespace Go.Proofs.Ytmloiifnadaaoaa
open Go.RowKit
set_option linter.unusedVariables false
set_option linter.unusedSimpArgs false

abbrev bothTs : List TypeId := [146, 139, 149, 82, 167]
theorem HeldOp.keepB {B : Nat} {w : World} {g x : Nat} {er : Bool} {at_ : Int} {A : Option Addr} {n c : Nat} {W w' : World} (h : HeldOp B w g x er at_ A n c W) (hb : Below B W w') (hg : g < B) : HeldOp B w g x er at_ A n c w' := by
  obtain ⟨h1, h2, h3, h4⟩ := h
  exact ⟨(hb.cell (p := ⟨g, x, none⟩) hg).trans h1, (hb.cell (p := ⟨g, x + 1, none⟩) hg).trans h2, (hb.cell (p := ⟨g, x + 2, none⟩) hg).trans h3, h4.trans hb⟩
theorem IsCache.drew {w : World} {N pc : Nat} {d : Med} {l : List Opn} (h : IsCache w N pc d l) : IsCache w.drew N pc d l := h.below (Below.refl _ _).drew
theorem IsRCache.drew {w : World} {N pc : Nat} {d : Med} {l : List Opn} (h : IsRCache w N pc d l) : IsRCache w.drew N pc d l := h.below (Below.refl _ _).drew
theorem FrT.drew {N : Nat} {Ts : List TypeId} {w w' : World} (h : FrT N Ts w w') : FrT N Ts w w'.drew := h.call (Below.refl _ _).drew
theorem below_trB {B : Nat} {w w' w'' : World} (h : Below B w w') (k : Below B w' w'') : Below B w w'' := h.trans k

/-- What play leaves. -/
def PlayIs (N pd : Nat) (x : Cch) (w : World) (e : Ending) (w' : World) : Prop :=
  ∃ pc, e = .returned (.pointer (some ⟨pc, 0, none⟩)) ∧ IsCache w' N pc x.d x.l ∧ IsRCache w' N pd x.d x.l ∧ FrT N bothTs w w'

set_option maxHeartbeats 8000000 in
set_option maxRecDepth 1000000 in
theorem play12_any (B N pc pd : Nat) (x : Cch) (A : Option Addr) (l : List Stp) (c : Nat) (w : World) (hC : IsCache w N pc x.d x.l) (hD : IsRCache w N pd x.d x.l) (hl : StpsB w B A l) (hB : B ≤ N) (hlen : x.l.length + l.length ≤ 1000000) (hlens : ∀ s ∈ l, s.op.bs.length ≤ 140737488351232) :
    Calls Try.prog 68 #[.pointer (some ⟨pc, 0, none⟩), .pointer (some ⟨pd, 0, none⟩), .slice A l.length c] w (PlayIs N pd (x.steps l) w) := by
  have hNw := hC.le
  have Hl := Lib.hid hl
  have Hlens := Lib.hid hlens
  have HC := Lib.hid hC
  have HD := Lib.hid hD
  have Hlen := Lib.hid (fun j => x.steps_len (l.take j))
  clear hl hlens hC hD
  go_enter Try.func68, Try.ntmps68
  go_wp2_with fail
  go_loopw [0, 7] (fun cc i wr => ∃ j pc' : Nat, j ≤ l.length ∧ i = .int .i64 j ∧ cc = .pointer (some ⟨pc', 0, none⟩) ∧ IsCache wr N pc' (x.steps (l.take j)).d (x.steps (l.take j)).l ∧ IsRCache wr N pd (x.steps (l.take j)).d (x.steps (l.take j)).l ∧ FrT N bothTs w wr) (fun _ i _ => l.length - (intOf i).toNat)
  case atStart => exact ⟨0, pc, Nat.zero_le _, rfl, rfl, HC.out, HD.out, FrT.refl _ _ _⟩
  case round =>
    obtain ⟨j, pc', hj, rfl, rfl, C, D, F⟩ := hrel
    by_cases hjn : j < l.length
    · have ho : l[j]? = some l[j] := List.getElem?_eq_getElem hjn
      have htk : l.take (j + 1) = l.take j ++ [l[j]] := List.take_succ_eq_append_getElem hjn
      have hmem : l[j] ∈ l := List.getElem_mem hjn
      generalize l[j] = s at *
      have hbw : Below B w wr := F.below0 (by omega) hB
      have hsum : x.steps (l.take (j + 1)) = (x.steps (l.take j)).step s := by rw [htk, Cch.steps_snoc]
      have hyl : (x.steps (l.take j)).l.length ≤ 1000000 := by have := Hlen.out j; rw [List.length_take] at this; omega
      generalize x.steps (l.take j) = y at *
      have hc : ∃ g off A' c', A = some ⟨g, off, none⟩ ∧ g < B ∧ wr.cell? ⟨g, off + j * 5, none⟩ = some (.int .u8 (s.kind.toNat : Int)) ∧ HeldOp B w g (off + j * 5 + 1) s.op.er s.op.at_ A' s.op.bs.length c' wr ∧ wr.cell? ⟨g, off + j * 5 + 4, none⟩ = some (.int .i64 s.keep) ∧ BytesB wr B A' s.op.bs := by
        rcases (Hl.out.below hbw) with h1 | ⟨g, off, h1, h2, h3⟩
        · rw [h1] at hjn; simp at hjn
        · obtain ⟨k0, ⟨A', c', h4, h5, h6, h7⟩, k1⟩ := h3 j s ho
          exact ⟨g, off, A', c', h1, h2, k0, ⟨h4, h5, h6, hbw⟩, k1, h7⟩
      obtain ⟨g, off, A', c', rfl, hg, hkd, hop, hkp, hby⟩ := hc
      have hbl := Hlens.out s hmem
      have Hs := Lib.hid hsum
      have hBd : B ≤ wr.drew.heap.size := by have := hbw.size; show B ≤ wr.heap.size; omega
      have hwl := F.size
      clear hsum htk ho hmem
      by_cases h0 : s.kind = 0
      · rw [h0] at hkd
        have hkd' : wr.cell? ⟨g, off + j * 5, none⟩ = some (.int .u8 0) := hkd
        have hst : y.step s = ⟨y.d, push y.d y.l s.op⟩ := by unfold Cch.step; rw [if_pos h0]; rfl
        have Hst := Lib.hid hst
        obtain ⟨E, hE⟩ : ∃ E, (y.d.ops y.l).opE ⟨s.op.er, s.op.at_, s.op.bs⟩ = E := ⟨_, rfl⟩
        have HE := Lib.hid hE
        have Hby := Lib.hid (show BytesB wr.drew B A' s.op.bs from hby.below (Below.refl _ _).drew)
        have Hop := Lib.hid (show HeldOp B w g (off + j * 5 + 1) s.op.er s.op.at_ A' s.op.bs.length c' wr.drew from ⟨hop.1, hop.2.1, hop.2.2.1, hop.2.2.2.drew⟩)
        have Cd := Lib.hid C.drew
        have Dd := Lib.hid D.drew
        have Fd := Lib.hid F.drew
        clear hkd h0 hst hE hby hop hbw C D F hkp
        go_wp2_with fail
        go_region_held3 (fun W_ => W_.cell? ⟨g, off + j * 5 + 1, none⟩ = some (.bool s.op.er) ∧ W_.cell? ⟨g, off + j * 5 + 2, none⟩ = some (.int .i64 s.op.at_) ∧ W_.cell? ⟨g, off + j * 5 + 3, none⟩ = some (.slice A' s.op.bs.length c') ∧ Below B w W_) (first | exact Hop.out | exact HeldOp.keepB (by assumption) (by assumption) hg) (first | (go_at_call 71; refine (do12_any N pc' y.d y.l s.op.er s.op.at_ s.op.bs A' c' _ Cd.out Hby.out.rd hbl hyl).mono ?_; rintro e w1 ⟨rfl, C1, F1⟩; rw [HE.out]; have hb1 : Below B _ w1 := F1.below0 hBd hB; have By1 := Lib.hid (Hby.out.below hb1); have D1 := Lib.hid (Dd.out.frT F1 cacheTs_rcache); have C1' := Lib.hid C1; have F1' := Lib.hid (Fd.out.trans (F1.mono (Nat.le_refl _) (by decide))); have hs1 := hb1.size; clear C1 F1) | (go_at_call 120; refine (rcdo_any N pd y.d y.l s.op.er s.op.at_ s.op.bs A' c' _ D1.out By1.out.rd hbl hyl).mono ?_; rintro e w2 ⟨rfl, D2, F2⟩; rw [HE.out]; have hb2 : Below B w1 w2 := F2.below0 (by omega) hB; have C2 := Lib.hid (C1'.out.frT F2 rcacheTs_cache); have D2' := Lib.hid D2; have F2' := Lib.hid (F1'.out.trans (F2.mono (Nat.le_refl _) (by decide))); clear D2 F2))
        all_goals (try go_wp2)
        all_goals go_roundw
        case rel => exact ⟨j + 1, pc', by omega, by go_num, rfl, by rw [Hs.out, Hst.out]; exact C2.out, by rw [Hs.out, Hst.out]; exact D2'.out, F2'.out⟩
        case measure => simp [intOf]; omega
      · have Cc := Lib.hid C
        have Dd := Lib.hid D
        have Ff := Lib.hid F
        clear C D F hop hby
        by_cases h1 : s.kind = 1
        · rw [h1] at hkd
          have hkd' : wr.cell? ⟨g, off + j * 5, none⟩ = some (.int .u8 1) := hkd
          have hst : y.step s = ⟨y.d.ops y.l, []⟩ := by unfold Cch.step; rw [if_neg h0, if_pos h1]; rfl
          have Hst := Lib.hid hst
          clear hkd h0 h1 hst hkp hbw
          go_wp2_with (first | (go_at_call 64; refine (cflush_any N pc' y.d y.l _ Cc.out hyl).mono ?_; rintro e w1 ⟨rfl, C1, F1⟩; have D1 := Lib.hid (Dd.out.frT F1 cacheTs_rcache); have C1' := Lib.hid C1; have F1' := Lib.hid (Ff.out.trans (F1.mono (Nat.le_refl _) (by decide))); clear C1 F1) | (go_at_call 70; refine (rcflush_any N pd y.d y.l _ D1.out hyl).mono ?_; rintro e w2 ⟨rfl, D2, F2⟩; have C2 := Lib.hid (C1'.out.frT F2 rcacheTs_cache); have D2' := Lib.hid D2; have F2' := Lib.hid (F1'.out.trans (F2.mono (Nat.le_refl _) (by decide))); clear D2 F2))
          go_roundw
          case rel => exact ⟨j + 1, pc', by omega, by go_num, rfl, by rw [Hs.out, Hst.out]; exact C2.out, by rw [Hs.out, Hst.out]; exact D2'.out, F2'.out⟩
          case measure => simp [intOf]; omega
        · by_cases h2 : s.kind = 2
          · rw [h2] at hkd
            have hkd' : wr.cell? ⟨g, off + j * 5, none⟩ = some (.int .u8 2) := hkd
            have hst : y.step s = ⟨y.d.ops (y.l.take (keepN s.keep y.l)), []⟩ := by unfold Cch.step; rw [if_neg h0, if_neg h1, if_pos h2]; rfl
            have Hst := Lib.hid hst
            have hBr : B ≤ wr.heap.size := hBd
            clear hkd h0 h1 h2 hst hbw
            go_wp2_with (first | (go_at_call 72; refine (ccut_any N pc' y.d y.l s.keep _ Cc.out hyl).mono ?_; rintro e w1 ⟨rfl, C1, F1⟩; have hb1 : Below B wr w1 := F1.below0 hBr hB; have hkp1 := (hb1.cell (p := ⟨g, off + j * 5 + 4, none⟩) hg).trans hkp; have D1 := Lib.hid (Dd.out.frT F1 cacheTs_rcache); have C1' := Lib.hid C1; have F1' := Lib.hid (Ff.out.trans (F1.mono (Nat.le_refl _) (by decide))); clear C1 F1 hb1) | (go_at_call 103; refine (rccut_any N pd y.d y.l s.keep _ D1.out hyl).mono ?_; rintro e w2 ⟨rfl, D2, F2⟩; have C2 := Lib.hid (C1'.out.frT F2 rcacheTs_cache); have D2' := Lib.hid D2; have F2' := Lib.hid (F1'.out.trans (F2.mono (Nat.le_refl _) (by decide))); clear D2 F2))
            go_roundw
            case rel => exact ⟨j + 1, pc', by omega, by go_num, rfl, by rw [Hs.out, Hst.out]; exact C2.out, by rw [Hs.out, Hst.out]; exact D2'.out, F2'.out⟩
            case measure => simp [intOf]; omega
          · have hst : y.step s = y := by unfold Cch.step; rw [if_neg h0, if_neg h1, if_neg h2]
            have Hst := Lib.hid hst
            have hne : ∀ n : UInt8, s.kind ≠ n → (s.kind.toNat : Int) ≠ (n.toNat : Int) := fun n hn hh => hn (UInt8.toNat_inj.1 (by omega))
            have k0 := hne 0 h0
            have k1 := hne 1 h1
            have k2 := hne 2 h2
            obtain ⟨K, hK⟩ : ∃ K : Int, (s.kind.toNat : Int) = K := ⟨_, rfl⟩
            rw [hK] at hkd k0 k1 k2
            have K0 : (K == 0) = false := by simpa using k0
            have K1 : (K == 1) = false := by simpa using k1
            have K2 : (K == 2) = false := by simpa using k2
            clear hK k0 k1 k2 hne h0 h1 h2 hst hkp hbw
            go_wp2_with (go_at_call 76; refine (cclone_any N pc' y.d y.l _ Cc.out hyl).mono ?_; rintro e w1 ⟨hb1, pc2, rfl, C1⟩; have D1 := Lib.hid (Dd.out.below hb1); have C1' := Lib.hid (C1.mono (show N ≤ wr.heap.size by omega)); have F1' := Lib.hid (Ff.out.call hb1); clear C1 hb1)
            go_roundw
            case rel => exact ⟨j + 1, pc2, by omega, by go_num, rfl, by rw [Hs.out, Hst.out]; exact C1'.out, by rw [Hs.out, Hst.out]; exact D1.out, F1'.out⟩
            case measure => simp [intOf]; omega
    · have htk : l.take j = l := List.take_of_length_le (by omega)
      rw [htk] at C D
      have HC' := Lib.hid C
      have HD' := Lib.hid D
      clear C D htk
      go_wp2_with fail
      go_ret
      exact ⟨pc', rfl, HC'.out, HD'.out, F⟩
end Go.Proofs.Ytmloiifnadaaoaa
