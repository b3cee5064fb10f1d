/- Writes, where the bytes given lie apart from what the medium keeps. -/
import Derived.Test.YtmloiifnadaaoaaGreatMedL2
namespace Go.Proofs.YtmloiifnadaaoaaGreat
open Go.RowKit
set_option linter.unusedVariables false
set_option linter.unusedSimpArgs false

/-- Every slice in the first N sectors of block q is empty or leads to a block from B on. -/
def Clean (B : Nat) (w : World) (q N : Nat) : Prop := ∀ i A l c, i < N → w.cell? ⟨q, i * 2 + 1, none⟩ = some (.slice (some A) l c) → l = 0 ∨ B ≤ A.block
theorem Clean.below {B q N : Nat} {w w' : World} (h : Clean B w q N) (hq : q < w.heap.size) (hb : Below w.heap.size w w') : Clean B w' q N := fun i A l c hi hc => h i A l c hi ((hb.cell (p := ⟨q, i * 2 + 1, none⟩) hq).symm.trans hc)
theorem Clean.set {B q N : Nat} {w : World} (h : Clean B w q N) (j : Nat) (v : Value) (hv : ∀ A l c, v = .slice (some A) l c → B ≤ A.block) : Clean B (w.setCell ⟨q, j, none⟩ v) q N := by
  intro i A l c hi hc
  by_cases e : j = i * 2 + 1
  · subst e
    cases hh : w.cell? ⟨q, i * 2 + 1, none⟩ with
    | none =>
      exfalso
      have hb : q < w.heap.size := by
        have := World.block_lt_of_cell? _ _ hc
        simpa [World.setCell] using this
      unfold World.cell? World.setCell at hc
      unfold World.cell? at hh
      simp only [Array.getElem?_modify] at hc
      cases ho : w.heap[q]? with
      | none => rw [ho] at hc; simp at hc
      | some o =>
        rw [ho] at hc hh
        cases o with
        | cells c t fr => simp at hc hh; rw [Array.getElem?_setIfInBounds] at hc; simp at hc; omega
        | _ => simp at hc
    | some u =>
      rw [World.cell?_setCell_same _ _ _ hh] at hc
      exact .inr (hv A l c (Option.some.inj hc))
  · rw [World.cell?_setCell_other _ _ _ _ (fun hh => e (by injection hh))] at hc
    exact h i A l c hi hc

theorem IsMed.keepC {B g p q cap : Nat} {m : Med} {w w' : World} (h : IsMed w p q cap m) (hc : Clean B w q m.l.length) (hf : Fr (· = g) w w') (hg : g < B) (hp : p ≠ g) (hq : q ≠ g) : IsMed w' p q cap m := by
  refine ⟨(hf.block p h.hasP.lt hp).trans h.head, ?_, h.good⟩
  obtain ⟨xs, ho, hs⟩ := h.row
  refine ⟨xs, ?_, fun i s hi => ?_⟩
  · refine ⟨ho.1, ?_⟩
    rcases ho.2 with h2 | ⟨g', c, cur, hv, hb, hg', hr⟩
    · exact .inl h2
    · refine .inr ⟨g', c, cur, hv, hb, ?_, hr⟩
      have : g' = q := by simp at hv; exact hv.1.symm
      subst this
      exact (hf.block g' h.hasQ.lt hq).trans hg'
  · obtain ⟨A, c, h1, h2, h3⟩ := hs i s hi
    refine ⟨A, c, h1, h2, ?_⟩
    rcases h3 with h3 | ⟨g2, off, rfl, ht, hcl⟩
    · exact .inl h3
    · have hl : i < m.l.length := (List.getElem?_eq_some_iff.1 hi).1
      have hcell : w.cell? ⟨q, i * 2 + 1, none⟩ = some (.slice (some ⟨g2, off, none⟩) s.bs.length c) := by rw [ho.cellAt _ (by omega)]; exact h2
      rcases hc _ _ _ _ hl hcell with h0 | h5
      · exact .inl (List.eq_nil_of_length_eq_zero h0)
      have hne : ¬ g2 = g := fun e => by subst e; exact absurd hg (by simpa using h5)
      exact .inr ⟨g2, off, rfl, ht.keep hf hne, fun j x hx => hf.cell (hcl j x hx) hne⟩

theorem cloneBytes_new (A : Option Addr) (l : List UInt8) (c : Nat) (w : World) (h : BytesRd w A l) (hl : l.length ≤ 140737488351232) :
    Calls Tryz.prog 82 #[.slice A l.length c] w fun e w' => ∃ A' c', e = .returned (.slice A' l.length c') ∧ BytesT w' A' l ∧ Below w.heap.size w w' ∧ ∀ x, A' = some x → w.heap.size ≤ x.block := by
  refine (clone_bytes A l.length c (byteVals l) w (by rw [byteVals_len]; omega) h.cells (byteVals_one l) (by omega) h.nil).mono ?_
  rintro e w' ⟨v, rfl, ho, hb, _⟩
  obtain ⟨A', c', rfl, ht⟩ := bytesT_of_row ho
  refine ⟨A', c', rfl, ht, hb, fun x hx => ?_⟩
  rcases ho.2 with ⟨h1, _⟩ | ⟨g, cap, cur, h1, h2, _⟩
  · subst hx; cases h1
  · subst hx
    injection h1 with h1
    rw [Option.some.inj h1]
    exact h2

set_option maxHeartbeats 2000000 in
set_option maxRecDepth 1000000 in
theorem write_clean (B N p q cap : Nat) (m : Med) (a : Int) (A : Option Addr) (l : List UInt8) (c : Nat) (w : World) (h : IsMed w p q cap m) (hl : BytesRd w A l) (hlen : l.length ≤ 140737488351232) (hBw : B ≤ w.heap.size) (hC : Clean B w q N) :
    Calls Tryz.prog 85 #[.pointer (some ⟨p, 0, none⟩), .int .i64 a, .slice A l.length c] w (fun e w' => OpIs (m.writeE a l) p q cap (m.write a l) w e w' ∧ Clean B w' q N) := by
  cases hh : m.has a with
  | false =>
    have e1 : m.writeE a l = 2 := by unfold Med.writeE; rw [if_pos hh]
    have e2 : m.write a l = m := by unfold Med.write; rw [if_neg (by rw [e1]; decide)]
    rw [e1, e2]
    clear e1 e2
    go_enter Tryz.func85, Tryz.ntmps85
    go_wp2_with ((go_at_call 98; refine (has_any p q cap m a _ h).mono ?_; rintro e w' ⟨rfl, rfl⟩))
    go_ret
    exact ⟨⟨rfl, h, Fr.refl _ _⟩, hC⟩
  | true =>
    by_cases h64 : 64 < l.length
    · have e1 : m.writeE a l = 7 := by unfold Med.writeE; rw [if_neg (by rw [hh]; decide), if_pos h64]
      have e2 : m.write a l = m := by unfold Med.write; rw [if_neg (by rw [e1]; decide)]
      rw [e1, e2]
      clear e1 e2
      go_enter Tryz.func85, Tryz.ntmps85
      go_wp2_with ((go_at_call 98; refine (has_any p q cap m a _ h).mono ?_; rintro e w' ⟨rfl, rfl⟩))
      go_ret
      exact ⟨⟨rfl, h, Fr.refl _ _⟩, hC⟩
    · have e1 : m.writeE a l = 0 := Med.writeE_zero.2 ⟨hh, by omega⟩
      have e2 : m.write a l = { m with l := Med.kill (m.l.set a.toNat ⟨1, l⟩) (m.g.shadow a) } := by unfold Med.write; rw [if_pos e1]
      rw [e1, e2]
      have E2 := Lib.hid e2
      clear e1 e2
      have c5 := h.c5
      obtain ⟨h0, h1⟩ := Med.has_iff.1 hh
      obtain ⟨k, rfl⟩ := Int.eq_ofNat_of_zero_le h0
      have hk : k < m.l.length := by omega
      obtain ⟨A0, cc0, s0, s1, _, _⟩ := h.sec hk
      have f0 := h.free (k * 2)
      have f1 := h.free (k * 2 + 1)
      have hpl := h.hasP.lt
      have hne := h.ne
      have hql := h.hasQ.lt
      have HC := Lib.hid hC
      clear hC
      go_enter Tryz.func85, Tryz.ntmps85
      go_wp2_with ((go_at_call 98; refine (has_any p q cap m _ _ h).mono ?_; rintro e w' ⟨rfl, rfl⟩))
      go_region_held3 (fun W_ => W_.cell? ⟨p, 5, none⟩ = some (.slice (some ⟨q, 0, none⟩) m.l.length cap) ∧ Fr (· = q) w W_) (first | exact heldM_start c5 | exact heldM_call (by assumption) (by assumption) | exact heldM_set (by assumption) hne) (first | (go_at_call 82; refine (cloneBytes_new A l c _ ?_ hlen).mono ?_; (exact hl); rintro e w' ⟨A', c', rfl, hbt, hb, hnw⟩; have Hnw := Lib.hid hnw; clear hnw; have Hbt := Lib.hid hbt; clear hbt; have s0' := cell_later hb (show w.drew.cell? ⟨q, k * 2, none⟩ = _ from s0); have s1' := cell_later hb (show w.drew.cell? ⟨q, k * 2 + 1, none⟩ = _ from s1); have f0' := (hb.frozen (p := ⟨q, k * 2, none⟩) hql).trans f0; have f1' := (hb.frozen (p := ⟨q, k * 2 + 1, none⟩) hql).trans f1))
      have hb' : Below w.heap.size w w' := below_undrew hb
      have M2 := (h.below hb').put (a := k) (s := ⟨1, l⟩) (c := c') Hbt.out (by simp only; omega)
      have F2 : Fr (· = q) w ((w'.setCell ⟨q, k * 2, none⟩ (.int .i64 1)).setCell ⟨q, k * 2 + 1, none⟩ (.slice A' l.length c')) := ((Fr.ofBelow hb' (· = q)).setCell (p := ⟨q, k * 2, none⟩) (.inl rfl) _).setCell (p := ⟨q, k * 2 + 1, none⟩) (.inl rfl) _
      have C2 : Clean B ((w'.setCell ⟨q, k * 2, none⟩ (.int .i64 1)).setCell ⟨q, k * 2 + 1, none⟩ (.slice A' l.length c')) q N := ((HC.out.below hql hb').set _ _ (fun A l c e => by cases e)).set _ _ (fun A0 l0 c0 e => by injection e with e1; have h5 := Hnw.out A0 e1; simp at h5; omega)
      simp only at M2
      clear s0 s1 f0 f1 c5 s0' s1' f0' f1' hb hb'
      revert M2 F2 C2
      generalize (w'.setCell ⟨q, k * 2, none⟩ (.int .i64 1)).setCell ⟨q, k * 2 + 1, none⟩ (.slice A' l.length c') = W2
      intro M2 F2 C2
      have CC2 := Lib.hid C2
      clear C2
      have hN := Geo.nsh_le m.g k
      have hlenS := Lib.hid (Geo.shadow_len m.g k)
      have hin := Lib.hid (fun x hx => Med.shadow_has h.good (a := (k : Int)) (s := x) hx)
      have c0 := M2.c0
      have c1 := M2.c1
      have c2 := M2.c2
      have c3 := M2.c3
      have c4 := M2.c4
      simp only at c0 c1 c2 c3 c4
      have hq2 : q < W2.heap.size := Nat.lt_of_lt_of_le hql F2.size
      generalize hS : m.g.shadow k = S at *
      have HS := Lib.hid hS
      clear hS
      go_wp2_with (go_at_call 99; refine (shadow_any _ _ _ _ _ _ _).mono ?_; rintro e w3 ⟨v, rfl, hv, hb3⟩; rw [show (Geo.mk m.g.r m.g.b m.g.t m.g.s m.g.o).shadow (k : Int) = S from HS.out] at hv; obtain ⟨A3, cc3, hveq, hrd⟩ := intsRd_of hv; have hgq : ∀ g off, A3 = some ⟨g, off, none⟩ → S.length ≠ 0 → g ≠ q := (by intro g off hA hne0; have := hv.lt g (by rw [hveq, hA]; rfl); omega); subst hveq; have Hv := Lib.hid hrd; have Hgq := Lib.hid hgq; clear hv hrd hgq)
      have M3 := M2.below hb3
      have F3 := F2.call hb3
      have HM3 := Lib.hid M3
      have HC3 := Lib.hid (CC2.out.below hq2 hb3)
      clear c0 c1 c2 c3 c4 M2 M3 F2
      have hmx : S.length ≤ 3 := by rw [hlenS.out]; exact hN
      go_loopw [37] (fun i wr => ∃ j : Nat, j ≤ S.length ∧ i = .int .i64 j ∧ IsMed wr p q cap { m with l := Med.kill (m.l.set k ⟨1, l⟩) (S.take j) } ∧ Fr (· = q) w wr ∧ Fr (· = q) w3 wr ∧ Clean B wr q N) (fun i _ => S.length - (intOf i).toNat)
      case atStart => exact ⟨0, Nat.zero_le _, rfl, HM3.out, F3, Fr.refl _ _, HC3.out⟩
      case round =>
        obtain ⟨j, hj, rfl, M, F, G, C⟩ := hrel
        have HCj := Lib.hid C
        clear C
        by_cases hjn : j < S.length
        · have hx : S[j]? = some S[j] := List.getElem?_eq_getElem hjn
          have hmem : S[j] ∈ S := List.getElem_mem hjn
          have htk : S.take (j + 1) = S.take j ++ [S[j]] := List.take_succ_eq_append_getElem hjn
          generalize S[j] = x at *
          have hhx := hin.out x hmem
          obtain ⟨x0, x1⟩ := Med.has_iff.1 hhx
          obtain ⟨t, rfl⟩ := Int.eq_ofNat_of_zero_le x0
          have hcl : ∃ g off, A3 = some ⟨g, off, none⟩ ∧ wr.cell? ⟨g, off + j, none⟩ = some (.int .i64 (t : Int)) := by
            rcases Hv.out.2 with h1 | ⟨g, off, h1, h2⟩
            · rw [h1] at hjn; simp at hjn
            · exact ⟨g, off, h1, G.cell (h2 j _ hx) (Hgq.out g off h1 (by omega))⟩
          obtain ⟨g, off, rfl, hcl⟩ := hcl
          have Htk := Lib.hid htk
          clear htk hx hmem hhx
          have hkl : (Med.kill (m.l.set k ⟨1, l⟩) (S.take j)).length = m.l.length := by rw [Med.kill_len, List.length_set]
          have ht : t < (Med.kill (m.l.set k ⟨1, l⟩) (S.take j)).length := by omega
          obtain ⟨A0, cc0, s0, s1, _, _⟩ := M.sec ht
          have f0 := M.free (t * 2)
          have f1 := M.free (t * 2 + 1)
          have c5 := M.c5
          simp only at c5
          have HM := Lib.hid M
          have HF := Lib.hid F
          have HG := Lib.hid G
          rw [hkl] at c5
          clear M F G hkl ht
          go_wp2_with fail
          go_roundw
          case rel =>
            refine ⟨j + 1, by omega, by go_num, ?_, HF.out.set2 rfl, HG.out.set2 rfl, (HCj.out.set _ _ (fun A l c e => by cases e)).set _ _ (fun A l c e => by cases e)⟩
            rw [Htk.out, Med.kill_snoc, Int.toNat_natCast]
            exact HM.out.put (a := t) (s := Sec.dead) (A := none) (c := 0) (.inl rfl) (by simp [Sec.dead])
          case measure => simp [intOf]; omega
        · have htk : S.take j = S := List.take_of_length_le (by omega)
          rw [htk] at M
          have HM := Lib.hid M
          clear M htk G
          go_wp2_with fail
          go_ret
          refine ⟨⟨rfl, ?_, F⟩, HCj.out⟩
          have h9 := HM.out
          rw [← HS.out] at h9
          rw [Int.toNat_natCast]
          exact h9
theorem clean_new {w : World} {p q cap : Nat} {g : Geo} (h : IsMed w p q cap (Med.new g)) (B : Nat) : Clean B w q (Med.new g).l.length := by
  intro i A l c hi hc
  obtain ⟨A', c', _, h2, _, _⟩ := h.sec hi
  rw [h2] at hc
  injection hc with hc
  injection hc with h3 h4 h5
  have hs : ((Med.new g).sec i) = Sec.blank := by
    unfold Med.sec Med.new
    simp only [Int.toNat_natCast]
    rw [List.getD_eq_getElem?_getD]
    cases h9 : (List.replicate g.size.toNat Sec.blank)[i]? with
    | none => rfl
    | some s => exact (List.mem_replicate.1 (List.mem_of_getElem? h9)).2
  rw [hs] at h4
  exact .inl h4.symm
end Go.Proofs.YtmloiifnadaaoaaGreat
