/- The walks of the reference of package media: Write, Erase, Do. -/
import Derived.Test.YtmloiifnadaaoaaRefW1
import Derived.StillTailTactics
namespace Go.Proofs.Ytmloiifnadaaoaa
open Go.RowKit
set_option linter.unusedVariables false
set_option linter.unusedSimpArgs false

/-- What a write or an erasure of the reference leaves. -/
def ROpIs (c : Int) (p q cap : Nat) (m : Med) (w : World) (e : Ending) (w' : World) : Prop :=
  e = .returned (.int .i64 c) ∧ IsRef w' p q cap m ∧ Fr (· = q) w w'

set_option maxHeartbeats 2000000 in
set_option maxRecDepth 1000000 in
theorem rwrite_any (p q cap : Nat) (m : Med) (a : Int) (A : Option Addr) (l : List UInt8) (c : Nat) (w : World) (h : IsRef w p q cap m) (hl : BytesRd w A l) (hlen : l.length ≤ 140737488351232) :
    Calls Try.prog 117 #[.pointer (some ⟨p, 0, none⟩), .int .i64 a, .slice A l.length c] w (ROpIs (m.writeE a l) p q cap (m.write a l) w) := by
  cases hh : m.has a with
  | false =>
    have e1 : m.writeE a l = 2 := by unfold Med.writeE; rw [if_pos hh]
    have e2 : m.write a l = m := by unfold Med.write; rw [if_neg (by rw [e1]; decide)]
    rw [e1, e2]
    clear e1 e2
    go_enter Try.func117, Try.ntmps117
    go_wp2_with ((go_at_call 142; refine (rhas_any p q cap m a _ h).mono ?_; rintro e w' ⟨rfl, rfl⟩))
    go_ret
    exact ⟨rfl, h, Fr.refl _ _⟩
  | true =>
    by_cases h64 : 64 < l.length
    · have e1 : m.writeE a l = 7 := by unfold Med.writeE; rw [if_neg (by rw [hh]; decide), if_pos h64]
      have e2 : m.write a l = m := by unfold Med.write; rw [if_neg (by rw [e1]; decide)]
      rw [e1, e2]
      clear e1 e2
      go_enter Try.func117, Try.ntmps117
      go_wp2_with ((go_at_call 142; refine (rhas_any p q cap m a _ h).mono ?_; rintro e w' ⟨rfl, rfl⟩))
      go_ret
      exact ⟨rfl, h, Fr.refl _ _⟩
    · have e1 : m.writeE a l = 0 := Med.writeE_zero.2 ⟨hh, by omega⟩
      have e2 : m.write a l = { m with l := Med.kill (m.l.set a.toNat ⟨1, l⟩) (m.g.shadow a) } := by unfold Med.write; rw [if_pos e1]
      rw [e1, e2]
      have E2 := Lib.hid e2
      clear e1 e2
      have c5 := h.c5
      obtain ⟨h0, h1⟩ := Med.has_iff.1 hh
      obtain ⟨k, rfl⟩ := Int.eq_ofNat_of_zero_le h0
      have hk : k < m.l.length := by omega
      obtain ⟨s0, s1, _⟩ := h.sec hk
      have f0 := h.free (k * 2)
      have f1 := h.free (k * 2 + 1)
      have hpl := h.hasP.lt
      have hne := h.ne
      have hql := h.hasQ.lt
      have hconv := toStr_of hl c
      have hconv' : (convert 38 9 (.slice A l.length c)).run Try.prog w.drew = .ok (.string (str l)) w.drew := toStr_of (w := w.drew) hl c
      go_enter Try.func117, Try.ntmps117
      go_wp2_with ((go_at_call 142; refine (rhas_any p q cap m _ _ h).mono ?_; rintro e w' ⟨rfl, rfl⟩))
      go_region
      have M2 := h.put (a := k) (s := ⟨1, l⟩) (by simp only; omega)
      have F2 : Fr (· = q) w ((w.setCell ⟨q, k * 2, none⟩ (.int .i64 1)).setCell ⟨q, k * 2 + 1, none⟩ (.string (str l))) := (Fr.refl (· = q) w).set2 rfl
      simp only at M2
      clear s0 s1 f0 f1 c5 hconv hconv'
      revert M2 F2
      generalize (w.setCell ⟨q, k * 2, none⟩ (.int .i64 1)).setCell ⟨q, k * 2 + 1, none⟩ (.string (str l)) = W2
      intro M2 F2
      have hN := Geo.nsh_le m.g k
      have hlenS := Lib.hid (Geo.shadow_len m.g k)
      have hin := Lib.hid (fun x hx => Med.shadow_has h.good (a := (k : Int)) (s := x) hx)
      have c0 := M2.c0
      have c1 := M2.c1
      have c2 := M2.c2
      have c3 := M2.c3
      have c4 := M2.c4
      simp only at c0 c1 c2 c3 c4
      have hq2 : q < W2.heap.size := Nat.lt_of_lt_of_le hql F2.size
      generalize hS : m.g.shadow k = S at *
      have HS := Lib.hid hS
      clear hS
      go_wp2_with (go_at_call 37; refine (rshadow_any _ _ _ _ _ _ _).mono ?_; rintro e w3 ⟨v, rfl, hv, hb3⟩; rw [show (Geo.mk m.g.r m.g.b m.g.t m.g.s m.g.o).shadow (k : Int) = S from HS.out] at hv; obtain ⟨A3, cc3, hveq, hrd⟩ := intsRd_of hv; have hgq : ∀ g off, A3 = some ⟨g, off, none⟩ → S.length ≠ 0 → g ≠ q := (by intro g off hA hne0; have := hv.lt g (by rw [hveq, hA]; rfl); simp at this; omega); subst hveq; have Hv := Lib.hid hrd; have Hgq := Lib.hid hgq; have hb3' := below_undrew hb3; clear hv hrd hgq hb3)
      have M3 := M2.below hb3'
      have F3 := F2.call hb3'
      have HM3 := Lib.hid M3
      clear c0 c1 c2 c3 c4 M2 M3 F2
      have hmx : S.length ≤ 3 := by rw [hlenS.out]; exact hN
      go_loopw [8] (fun i wr => ∃ j : Nat, j ≤ S.length ∧ i = .int .i64 j ∧ IsRef wr p q cap { m with l := Med.kill (m.l.set k ⟨1, l⟩) (S.take j) } ∧ Fr (· = q) w wr ∧ Fr (· = q) w3 wr) (fun i _ => S.length - (intOf i).toNat)
      case atStart => exact ⟨0, Nat.zero_le _, rfl, HM3.out, F3, Fr.refl _ _⟩
      case round =>
        obtain ⟨j, hj, rfl, M, F, G⟩ := hrel
        by_cases hjn : j < S.length
        · have hx : S[j]? = some S[j] := List.getElem?_eq_getElem hjn
          have hmem : S[j] ∈ S := List.getElem_mem hjn
          have htk : S.take (j + 1) = S.take j ++ [S[j]] := List.take_succ_eq_append_getElem hjn
          generalize S[j] = x at *
          have hhx := hin.out x hmem
          obtain ⟨x0, x1⟩ := Med.has_iff.1 hhx
          obtain ⟨t, rfl⟩ := Int.eq_ofNat_of_zero_le x0
          have hcl : ∃ g off, A3 = some ⟨g, off, none⟩ ∧ wr.cell? ⟨g, off + j, none⟩ = some (.int .i64 (t : Int)) := by
            rcases Hv.out.2 with h1 | ⟨g, off, h1, h2⟩
            · rw [h1] at hjn; simp at hjn
            · exact ⟨g, off, h1, G.cell (h2 j _ hx) (Hgq.out g off h1 (by omega))⟩
          obtain ⟨g, off, rfl, hcl⟩ := hcl
          have Htk := Lib.hid htk
          clear htk hx hmem hhx
          have hkl : (Med.kill (m.l.set k ⟨1, l⟩) (S.take j)).length = m.l.length := by rw [Med.kill_len, List.length_set]
          have ht : t < (Med.kill (m.l.set k ⟨1, l⟩) (S.take j)).length := by omega
          obtain ⟨s0, s1, _⟩ := M.sec ht
          have f0 := M.free (t * 2)
          have f1 := M.free (t * 2 + 1)
          have c5 := M.c5
          simp only at c5
          have HM := Lib.hid M
          have HF := Lib.hid F
          have HG := Lib.hid G
          rw [hkl] at c5
          clear M F G hkl ht
          go_wp2_with fail
          go_region
          go_wp2
          go_roundw
          case rel =>
            refine ⟨j + 1, by omega, by go_num, ?_, (HF.out.set2 rfl).drew, (HG.out.set2 rfl).drew⟩
            rw [Htk.out, Med.kill_snoc, Int.toNat_natCast]
            exact (HM.out.put (a := t) (s := Sec.dead) (by simp [Sec.dead])).below (Below.refl _ _).drew
          case measure => simp [intOf]; omega
        · have htk : S.take j = S := List.take_of_length_le (by omega)
          rw [htk] at M
          have HM := Lib.hid M
          clear M htk G
          go_wp2_with fail
          go_ret
          refine ⟨rfl, ?_, F⟩
          rw [Int.toNat_natCast]
          exact HM.out

set_option maxHeartbeats 4000000 in
set_option maxRecDepth 1000000 in
theorem rerase_any (p q cap : Nat) (m : Med) (k : Int) (w : World) (h : IsRef w p q cap m) :
    Calls Try.prog 116 #[.pointer (some ⟨p, 0, none⟩), .int .i64 k] w (ROpIs (m.eraseE k) p q cap (m.erase k) w) := by
  have c0 := h.c0
  have c1 := h.c1
  have c2 := h.c2
  have c3 := h.c3
  have c4 := h.c4
  have c5 := h.c5
  have ho := h.good.ok
  have t0 := ho.t0
  have s0 := ho.s0
  by_cases hk : 0 ≤ k ∧ k < m.g.b
  · have e1 : m.eraseE k = 0 := by unfold Med.eraseE; rw [if_pos hk]
    have e2 : m.erase k = { m with l := Med.wipe m.l (m.g.r + k * (m.g.t * m.g.s)).toNat (m.g.t * m.g.s).toNat } := by unfold Med.erase; rw [if_pos e1]
    have e4 := Geo.bs_ok ho
    obtain ⟨b0, b1⟩ := Med.erase_has h.good hk
    have hts := ho.ts
    have r0 := ho.r0
    rw [e1, e2]
    have hlen := h.good.len_le
    obtain ⟨f, hf⟩ := Int.eq_ofNat_of_zero_le b0
    obtain ⟨n, hn⟩ := Int.eq_ofNat_of_zero_le (show 0 ≤ m.g.t * m.g.s by omega)
    have m0 : 0 ≤ k * (m.g.t * m.g.s) := Int.mul_nonneg hk.1 (by omega)
    rw [hf] at b1 ⊢
    rw [hn] at b1 hts e4 hf m0 ⊢
    obtain ⟨hk0, hk1⟩ := hk
    have X1 : IntKind.i64.wrap (k * (n : Int)) = k * (n : Int) := IntWalk.i64_in _ (by omega)
    have X2 : IntKind.i64.wrap (m.g.r + k * (n : Int)) = (f : Int) := by rw [hf]; exact IntWalk.i64_in _ (by omega)
    have E4 := Lib.hid e4
    have HM0 := Lib.hid h
    have hpl := h.hasP.lt
    clear e1 e2 e4 b0 hf hn ho
    go_enter Try.func116, Try.ntmps116
    go_wp2_with (first | (go_at_call 34; refine (rbandSize_any _ _ _ _ _ _).mono ?_; rintro e w2 ⟨rfl, hb2⟩; rw [show (Geo.mk m.g.r m.g.b m.g.t m.g.s m.g.o).bs = (n : Int) from E4.out]))
    have HM2 := Lib.hid (HM0.out.below hb2)
    clear c0 c1 c2 c3 c4 c5
    go_loopw [6] (fun i wr => ∃ j : Nat, j ≤ n ∧ i = .int .i64 j ∧ IsRef wr p q cap { m with l := Med.wipe m.l f j } ∧ Fr (· = q) w wr) (fun i _ => n - (intOf i).toNat)
    case atStart => exact ⟨0, Nat.zero_le _, rfl, HM2.out, Fr.ofBelow hb2 _⟩
    case round =>
      obtain ⟨j, hj, rfl, M, F⟩ := hrel
      have hwl : (Med.wipe m.l f j).length = m.l.length := Med.wipe_len _ _ _
      by_cases hjn : j < n
      · have ht : f + j < (Med.wipe m.l f j).length := by omega
        obtain ⟨s0, s1, _⟩ := M.sec ht
        have f0 := M.free ((f + j) * 2)
        have f1 := M.free ((f + j) * 2 + 1)
        have c0 := M.c0
        have c5 := M.c5
        simp only at c5 c0
        rw [hwl] at c5
        have X3 : IntKind.i64.wrap ((f : Int) + (j : Int)) = ((f + j : Nat) : Int) := by rw [IntWalk.i64_in _ (by omega)]; omega
        have hlt2 : f + j < m.l.length := by omega
        have hlt3 : ((f + j : Nat) : Int) < (m.l.length : Int) := by omega
        have hle2 : m.l.length ≤ 81920 := hlen
        have hwp := Med.wipe_succ m.l f j
        generalize hX : f + j = x at *
        have Hwp := Lib.hid hwp
        clear hX hwp
        have HM := Lib.hid M
        have HF := Lib.hid F
        clear M F hwl ht
        go_wp2_with fail
        go_region
        go_wp2
        go_roundw
        case rel =>
          refine ⟨j + 1, by omega, by go_num, ?_, (HF.out.set2 rfl).drew⟩
          rw [Hwp.out]
          exact (HM.out.put (a := x) (s := Sec.blank) (by simp [Sec.blank])).below (Below.refl _ _).drew
        case measure => simp [intOf]; omega
      · have hjn' : j = n := by omega
        subst hjn'
        have HM := Lib.hid M
        clear M hwl
        go_wp2_with fail
        go_ret
        exact ⟨rfl, by rw [Int.toNat_natCast, Int.toNat_natCast]; exact HM.out, F⟩
  · have e1 : m.eraseE k = 2 := by unfold Med.eraseE; rw [if_neg hk]
    have e2 : m.erase k = m := by unfold Med.erase; rw [if_neg (by rw [e1]; decide)]
    rw [e1, e2]
    have Hk := Lib.hid hk
    clear e1 e2 hk
    by_cases hk0 : k < 0
    · go_enter Try.func116, Try.ntmps116
      go_wp2
      go_ret
      exact ⟨rfl, h, Fr.refl _ _⟩
    · have hk1 : m.g.b ≤ k := by have := Hk.out; omega
      go_enter Try.func116, Try.ntmps116
      go_wp2
      go_ret
      exact ⟨rfl, h, Fr.refl _ _⟩
end Go.Proofs.Ytmloiifnadaaoaa
