/- The walks of package media: Write, Erase. -/
import Derived.Test.YtmloiifnadaaoaaMedW2
namespace Go.Proofs.Ytmloiifnadaaoaa
open Go.RowKit
set_option linter.unusedVariables false
set_option linter.unusedSimpArgs false

/-- What a write or an erasure leaves. -/
def OpIs (c : Int) (p q cap : Nat) (m : Med) (w : World) (e : Ending) (w' : World) : Prop :=
  e = .returned (.int .i64 c) ∧ IsMed w' p q cap m ∧ Fr (· = q) w w'

/-- What holds throughout the statement that stores a sector. -/
def HeldM (w : World) (p q : Nat) (u : Value) (W : World) : Prop := W.cell? ⟨p, 5, none⟩ = some u ∧ Fr (· = q) w W
theorem heldM_start {w : World} {p q : Nat} {u : Value} (h : w.cell? ⟨p, 5, none⟩ = some u) : HeldM w p q u w.drew := ⟨h, (Fr.refl _ _).drew⟩
theorem heldM_call {w : World} {p q : Nat} {u : Value} {W W' : World} (h : HeldM w p q u W) (hb : Below W.heap.size W W') : HeldM w p q u W' := ⟨cell_later hb h.1, h.2.call hb⟩
theorem heldM_set {w : World} {p q : Nat} {u : Value} {W : World} {i j : Nat} {x y : Value} (h : HeldM w p q u W) (hne : p ≠ q) : HeldM w p q u ((W.setCell ⟨q, i, none⟩ x).setCell ⟨q, j, none⟩ y) :=
  ⟨by
    have e1 : (⟨q, i, none⟩ : Addr) ≠ ⟨p, 5, none⟩ := fun e => hne (by injection e with e; exact e.symm)
    have e2 : (⟨q, j, none⟩ : Addr) ≠ ⟨p, 5, none⟩ := fun e => hne (by injection e with e; exact e.symm)
    rw [World.cell?_setCell_other _ _ _ _ e2, World.cell?_setCell_other _ _ _ _ e1]
    exact h.1,
    (h.2.setCell (p := ⟨q, i, none⟩) (.inl rfl) _).setCell (p := ⟨q, j, none⟩) (.inl rfl) _⟩

set_option maxHeartbeats 2000000 in
set_option maxRecDepth 1000000 in
theorem write_any (p q cap : Nat) (m : Med) (a : Int) (A : Option Addr) (l : List UInt8) (c : Nat) (w : World) (h : IsMed w p q cap m) (hl : BytesRd w A l) (hlen : l.length ≤ 140737488351232) :
    Calls Try.prog 47 #[.pointer (some ⟨p, 0, none⟩), .int .i64 a, .slice A l.length c] w (OpIs (m.writeE a l) p q cap (m.write a l) w) := by
  cases hh : m.has a with
  | false =>
    have e1 : m.writeE a l = 2 := by unfold Med.writeE; rw [if_pos hh]
    have e2 : m.write a l = m := by unfold Med.write; rw [if_neg (by rw [e1]; decide)]
    rw [e1, e2]
    clear e1 e2
    go_enter Try.func47, Try.ntmps47
    go_wp2_with ((go_at_call 111; refine (has_any p q cap m a _ h).mono ?_; rintro e w' ⟨rfl, rfl⟩))
    go_ret
    exact ⟨rfl, h, Fr.refl _ _⟩
  | true =>
    by_cases h64 : 64 < l.length
    · have e1 : m.writeE a l = 7 := by unfold Med.writeE; rw [if_neg (by rw [hh]; decide), if_pos h64]
      have e2 : m.write a l = m := by unfold Med.write; rw [if_neg (by rw [e1]; decide)]
      rw [e1, e2]
      clear e1 e2
      go_enter Try.func47, Try.ntmps47
      go_wp2_with ((go_at_call 111; refine (has_any p q cap m a _ h).mono ?_; rintro e w' ⟨rfl, rfl⟩))
      go_ret
      exact ⟨rfl, h, Fr.refl _ _⟩
    · have e1 : m.writeE a l = 0 := Med.writeE_zero.2 ⟨hh, by omega⟩
      have e2 : m.write a l = { m with l := Med.kill (m.l.set a.toNat ⟨1, l⟩) (m.g.shadow a) } := by unfold Med.write; rw [if_pos e1]
      rw [e1, e2]
      have E2 := Lib.hid e2
      clear e1 e2
      have c5 := h.c5
      obtain ⟨h0, h1⟩ := Med.has_iff.1 hh
      obtain ⟨k, rfl⟩ := Int.eq_ofNat_of_zero_le h0
      have hk : k < m.l.length := by omega
      obtain ⟨A0, cc0, s0, s1, _, _⟩ := h.sec hk
      have f0 := h.free (k * 2)
      have f1 := h.free (k * 2 + 1)
      have hpl := h.hasP.lt
      have hne := h.ne
      have hql := h.hasQ.lt
      go_enter Try.func47, Try.ntmps47
      go_wp2_with ((go_at_call 111; refine (has_any p q cap m _ _ h).mono ?_; rintro e w' ⟨rfl, rfl⟩))
      go_region_held3 (fun W_ => W_.cell? ⟨p, 5, none⟩ = some (.slice (some ⟨q, 0, none⟩) m.l.length cap) ∧ Fr (· = q) w W_) (first | exact heldM_start c5 | exact heldM_call (by assumption) (by assumption) | exact heldM_set (by assumption) hne) (first | (go_at_call 112; refine (cloneBytes_any A l c _ ?_ hlen).mono ?_; (exact hl); rintro e w' ⟨A', c', rfl, hbt, hb⟩; have Hbt := Lib.hid hbt; clear hbt; have s0' := cell_later hb (show w.drew.cell? ⟨q, k * 2, none⟩ = _ from s0); have s1' := cell_later hb (show w.drew.cell? ⟨q, k * 2 + 1, none⟩ = _ from s1); have f0' := (hb.frozen (p := ⟨q, k * 2, none⟩) hql).trans f0; have f1' := (hb.frozen (p := ⟨q, k * 2 + 1, none⟩) hql).trans f1))
      have hb' : Below w.heap.size w w' := below_undrew hb
      have M2 := (h.below hb').put (a := k) (s := ⟨1, l⟩) (c := c') Hbt.out (by simp only; omega)
      have F2 : Fr (· = q) w ((w'.setCell ⟨q, k * 2, none⟩ (.int .i64 1)).setCell ⟨q, k * 2 + 1, none⟩ (.slice A' l.length c')) := ((Fr.ofBelow hb' (· = q)).setCell (p := ⟨q, k * 2, none⟩) (.inl rfl) _).setCell (p := ⟨q, k * 2 + 1, none⟩) (.inl rfl) _
      simp only at M2
      clear s0 s1 f0 f1 c5 s0' s1' f0' f1' hb hb'
      revert M2 F2
      generalize (w'.setCell ⟨q, k * 2, none⟩ (.int .i64 1)).setCell ⟨q, k * 2 + 1, none⟩ (.slice A' l.length c') = W2
      intro M2 F2
      have hN := Geo.nsh_le m.g k
      have hlenS := Lib.hid (Geo.shadow_len m.g k)
      have hin := Lib.hid (fun x hx => Med.shadow_has h.good (a := (k : Int)) (s := x) hx)
      have c0 := M2.c0
      have c1 := M2.c1
      have c2 := M2.c2
      have c3 := M2.c3
      have c4 := M2.c4
      simp only at c0 c1 c2 c3 c4
      have hq2 : q < W2.heap.size := Nat.lt_of_lt_of_le hql F2.size
      generalize hS : m.g.shadow k = S at *
      have HS := Lib.hid hS
      clear hS
      go_wp2_with (go_at_call 36; refine (shadow_any _ _ _ _ _ _ _).mono ?_; rintro e w3 ⟨v, rfl, hv, hb3⟩; rw [show (Geo.mk m.g.r m.g.b m.g.t m.g.s m.g.o).shadow (k : Int) = S from HS.out] at hv; obtain ⟨A3, cc3, hveq, hrd⟩ := intsRd_of hv; have hgq : ∀ g off, A3 = some ⟨g, off, none⟩ → S.length ≠ 0 → g ≠ q := (by intro g off hA hne0; have := hv.lt g (by rw [hveq, hA]; rfl); omega); subst hveq; have Hv := Lib.hid hrd; have Hgq := Lib.hid hgq; clear hv hrd hgq)
      have M3 := M2.below hb3
      have F3 := F2.call hb3
      have HM3 := Lib.hid M3
      clear c0 c1 c2 c3 c4 M2 M3 F2
      have hmx : S.length ≤ 3 := by rw [hlenS.out]; exact hN
      go_loopw [37] (fun i wr => ∃ j : Nat, j ≤ S.length ∧ i = .int .i64 j ∧ IsMed wr p q cap { m with l := Med.kill (m.l.set k ⟨1, l⟩) (S.take j) } ∧ Fr (· = q) w wr ∧ Fr (· = q) w3 wr) (fun i _ => S.length - (intOf i).toNat)
      case atStart => exact ⟨0, Nat.zero_le _, rfl, HM3.out, F3, Fr.refl _ _⟩
      case round =>
        obtain ⟨j, hj, rfl, M, F, G⟩ := hrel
        by_cases hjn : j < S.length
        · have hx : S[j]? = some S[j] := List.getElem?_eq_getElem hjn
          have hmem : S[j] ∈ S := List.getElem_mem hjn
          have htk : S.take (j + 1) = S.take j ++ [S[j]] := List.take_succ_eq_append_getElem hjn
          generalize S[j] = x at *
          have hhx := hin.out x hmem
          obtain ⟨x0, x1⟩ := Med.has_iff.1 hhx
          obtain ⟨t, rfl⟩ := Int.eq_ofNat_of_zero_le x0
          have hcl : ∃ g off, A3 = some ⟨g, off, none⟩ ∧ wr.cell? ⟨g, off + j, none⟩ = some (.int .i64 (t : Int)) := by
            rcases Hv.out.2 with h1 | ⟨g, off, h1, h2⟩
            · rw [h1] at hjn; simp at hjn
            · exact ⟨g, off, h1, G.cell (h2 j _ hx) (Hgq.out g off h1 (by omega))⟩
          obtain ⟨g, off, rfl, hcl⟩ := hcl
          have Htk := Lib.hid htk
          clear htk hx hmem hhx
          have hkl : (Med.kill (m.l.set k ⟨1, l⟩) (S.take j)).length = m.l.length := by rw [Med.kill_len, List.length_set]
          have ht : t < (Med.kill (m.l.set k ⟨1, l⟩) (S.take j)).length := by omega
          obtain ⟨A0, cc0, s0, s1, _, _⟩ := M.sec ht
          have f0 := M.free (t * 2)
          have f1 := M.free (t * 2 + 1)
          have c5 := M.c5
          simp only at c5
          have HM := Lib.hid M
          have HF := Lib.hid F
          have HG := Lib.hid G
          rw [hkl] at c5
          clear M F G hkl ht
          go_wp2_with fail
          go_roundw
          case rel =>
            refine ⟨j + 1, by omega, by go_num, ?_, HF.out.set2 rfl, HG.out.set2 rfl⟩
            rw [Htk.out, Med.kill_snoc, Int.toNat_natCast]
            exact HM.out.put (a := t) (s := Sec.dead) (A := none) (c := 0) (.inl rfl) (by simp [Sec.dead])
          case measure => simp [intOf]; omega
        · have htk : S.take j = S := List.take_of_length_le (by omega)
          rw [htk] at M
          have HM := Lib.hid M
          clear M htk G
          go_wp2_with fail
          go_ret
          refine ⟨rfl, ?_, F⟩
          rw [Int.toNat_natCast]
          exact HM.out
theorem write_nil (a : Int) (A : Option Addr) (n c : Nat) (w : World) : Calls Try.prog 47 #[.pointer none, .int .i64 a, .slice A n c] w fun e w' => e = .returned (.int .i64 8) ∧ w = w' := by
  go_enter Try.func47, Try.ntmps47
  go_wp2
  go_ret
  exact ⟨rfl, rfl⟩

set_option maxHeartbeats 2000000 in
set_option maxRecDepth 1000000 in
theorem erase_any (p q cap : Nat) (m : Med) (k : Int) (w : World) (h : IsMed w p q cap m) :
    Calls Try.prog 51 #[.pointer (some ⟨p, 0, none⟩), .int .i64 k] w (OpIs (m.eraseE k) p q cap (m.erase k) w) := by
  have c0 := h.c0
  have c1 := h.c1
  have c2 := h.c2
  have c3 := h.c3
  have c4 := h.c4
  have c5 := h.c5
  have ho := h.good.ok
  have t0 := ho.t0
  have s0 := ho.s0
  by_cases hk : 0 ≤ k ∧ k < m.g.b
  · have e1 : m.eraseE k = 0 := by unfold Med.eraseE; rw [if_pos hk]
    have e2 : m.erase k = { m with l := Med.wipe m.l (m.g.r + k * (m.g.t * m.g.s)).toNat (m.g.t * m.g.s).toNat } := by unfold Med.erase; rw [if_pos e1]
    have e3 : m.g.adr k 0 0 = (m.g.r + k * (m.g.t * m.g.s), 0) := by
      rw [Geo.adr_in ho hk ⟨by omega, by omega⟩ ⟨by omega, by omega⟩, Int.add_zero, Int.add_zero, Int.mul_assoc]
    have e4 := Geo.bs_ok ho
    obtain ⟨b0, b1⟩ := Med.erase_has h.good hk
    have hts := ho.ts
    rw [e1, e2]
    have hlen := h.good.len_le
    obtain ⟨f, hf⟩ := Int.eq_ofNat_of_zero_le b0
    obtain ⟨n, hn⟩ := Int.eq_ofNat_of_zero_le (show 0 ≤ m.g.t * m.g.s by omega)
    rw [hf] at e3 b1 ⊢
    rw [hn] at b1 hts e4 ⊢
    have E3 := Lib.hid e3
    have E4 := Lib.hid e4
    have HM0 := Lib.hid h
    have hpl := h.hasP.lt
    clear e1 e2 e3 e4 b0 hf hn hk ho
    go_enter Try.func51, Try.ntmps51
    go_wp2_with (first | (go_at_call 42; refine (address_any _ _ _ _ _ _ _ _ _).mono ?_; rintro e w1 ⟨rfl, hb1⟩; rw [E3.out]; obtain ⟨hc1, hf1, hz1⟩ := bcell hb1) | (go_at_call 33; refine (bandSize_any _ _ _ _ _ _).mono ?_; rintro e w2 ⟨rfl, hb2⟩; rw [show (Geo.mk m.g.r m.g.b m.g.t m.g.s m.g.o).bs = (n : Int) from E4.out]; have hB2 := below_of hb2 hb1))
    have HM2 := Lib.hid (HM0.out.below hB2)
    clear c0 c1 c2 c3 c4 c5 hc1 hf1 hz1
    go_loopw [26] (fun i wr => ∃ j : Nat, j ≤ n ∧ i = .int .i64 j ∧ IsMed wr p q cap { m with l := Med.wipe m.l f j } ∧ Fr (· = q) w wr) (fun i _ => n - (intOf i).toNat)
    case atStart => exact ⟨0, Nat.zero_le _, rfl, HM2.out, Fr.ofBelow hB2 _⟩
    case round =>
      obtain ⟨j, hj, rfl, M, F⟩ := hrel
      have hwl : (Med.wipe m.l f j).length = m.l.length := Med.wipe_len _ _ _
      by_cases hjn : j < n
      · have ht : f + j < (Med.wipe m.l f j).length := by omega
        obtain ⟨A0, cc0, s0, s1, _, _⟩ := M.sec ht
        have f0 := M.free ((f + j) * 2)
        have f1 := M.free ((f + j) * 2 + 1)
        have c5 := M.c5
        simp only at c5
        rw [hwl] at c5
        have hsum : (f : Int) + (j : Int) = ((f + j : Nat) : Int) := by omega
        have hlt2 : f + j < m.l.length := by omega
        have hle2 : m.l.length ≤ 81920 := hlen
        have hwp := Med.wipe_succ m.l f j
        generalize hX : f + j = x at *
        have Hwp := Lib.hid hwp
        clear hX hwp
        have HM := Lib.hid M
        have HF := Lib.hid F
        clear M F hwl ht
        go_wp2_with fail
        go_roundw
        case rel =>
          refine ⟨j + 1, by omega, by go_num, ?_, HF.out.set2 rfl⟩
          rw [Hwp.out]
          exact HM.out.put (a := x) (s := Sec.blank) (A := none) (c := 0) (.inl rfl) (by simp [Sec.blank])
        case measure => simp [intOf]; omega
      · have hjn' : j = n := by omega
        subst hjn'
        have HM := Lib.hid M
        clear M hwl
        go_wp2_with fail
        go_ret
        exact ⟨rfl, by rw [Int.toNat_natCast, Int.toNat_natCast]; exact HM.out, F⟩
  · have e1 : m.eraseE k = 2 := by unfold Med.eraseE; rw [if_neg hk]
    have e2 : m.erase k = m := by unfold Med.erase; rw [if_neg (by rw [e1]; decide)]
    have e3 : m.g.adr k 0 0 = (0, 2) := Geo.adr_out ho (fun hh => hk hh.1)
    rw [e1, e2]
    have E3 := Lib.hid e3
    clear e1 e2 e3
    go_enter Try.func51, Try.ntmps51
    go_wp2_with (first | (go_at_call 42; refine (address_any _ _ _ _ _ _ _ _ _).mono ?_; rintro e w1 ⟨rfl, hb1⟩; rw [E3.out]; obtain ⟨hc1, hf1, hz1⟩ := bcell hb1))
    go_ret
    exact ⟨rfl, h.below hb1, Fr.ofBelow hb1 _⟩
theorem erase_nil (k : Int) (w : World) : Calls Try.prog 51 #[.pointer none, .int .i64 k] w fun e w' => e = .returned (.int .i64 8) ∧ w = w' := by
  go_enter Try.func51, Try.ntmps51
  go_wp2
  go_ret
  exact ⟨rfl, rfl⟩
end Go.Proofs.Ytmloiifnadaaoaa
