/- The walk of the reference's begin, whole. -/
import Derived.Test.YtmloiifnadaaoaaGreatRDskWd
import Derived.Test.YtmloiifnadaaoaaGreatRDskWs
import Derived.Test.YtmloiifnadaaoaaGreatRDskWg
import Derived.Test.YtmloiifnadaaoaaGreatActA
import Derived.Test.YtmloiifnadaaoaaGreatDskC4
namespace Go.Proofs.YtmloiifnadaaoaaGreat
open Go.RowKit
set_option linter.unusedVariables false
set_option linter.unusedSimpArgs false

section
variable {G : Nat → Prop} {pd pp : Nat} {D : Dsk} {P : Pow}
theorem rbegin_any (key : Int) (w : World) (h : IsRDisk w G pd pp D) (hp : IsRPow w G pp P) (hfl : D.fl.length ≤ 1000000) :
    Calls Tryz.prog 64 #[.pointer (some ⟨pd, 0, none⟩), .int .u64 key] w (RBegIs G pd pp (D.begin_ P key) w) := by
  by_cases hs : D.state P = 0
  · cases hc : P.call.off with
    | true => exact rbegin_power key w h hp hs hc
    | false =>
      by_cases hk : key = D.key
      · subst hk
        obtain ⟨f, hf⟩ : ∃ f, D.flt = f := ⟨_, rfl⟩
        obtain ⟨fa, fk, ft⟩ := f
        by_cases h7 : fk = 7
        · exact rbegin_die fa fk ft w h hp hfl hs hc hf h7
        · by_cases h6 : fk = 6
          · exact rbegin_slow fa fk ft w h hp hfl hs hc hf h6
          · exact rbegin_go fa fk ft w h hp hfl hs hc hf h7 h6
      · exact rbegin_key key w h hp hs hc hk
  · exact rbegin_state key w h hp hs
end
end Go.Proofs.YtmloiifnadaaoaaGreat
/- The walks of the reference of package disk: Read, Write, Erase, Flush. -/
namespace Go.Proofs.YtmloiifnadaaoaaGreat
open Go.RowKit
set_option linter.unusedVariables false
set_option linter.unusedSimpArgs false

set_option maxHeartbeats 1000000 in
theorem rcread_any (N pd : Nat) (d : Med) (l : List Opn) (a : Int) (w : World) (h : IsRCache w N pd d l) (hlen : l.length ≤ 1000000) :
    Calls Tryz.prog 66 #[.pointer (some ⟨pd, 0, none⟩), .int .i64 a] w (ReadIs (d.ops l) a w) := by
  have H := Lib.hid h
  clear h
  obtain ⟨m, hm⟩ : ∃ m, d.ops l = m := ⟨_, rfl⟩
  rw [hm]
  have Hm := Lib.hid hm
  clear hm
  go_enter Tryz.func66, Tryz.ntmps66
  go_wp2_with (first | (go_at_call 44; refine (rcontents_any N pd d l _ H.out hlen).mono ?_; rintro e w1 ⟨hb, p, q, n, rfl, _, _, hM⟩; rw [Hm.out] at hM; have M := Lib.hid hM; have B := Lib.hid hb; clear hM hb) | (go_at_call 91; refine (rread_any p q n m a _ M.out).mono ?_; rintro e w2 ⟨A1, x1, rfl, hb1, hB1⟩; have X := Lib.hid hb1; have Y := Lib.hid hB1; clear hb1 hB1))
  go_ret2
  exact ⟨A1, x1, rfl, X.out, below_of Y.out B.out⟩

/-- A box of a fault behind a call that leaves what was there. -/
theorem fbox {wr : World} {f : Flt} {n : Nat} (h : wr.heap[n]? = some (.cells #[.int .i64 f.at_, .int .i64 f.kind, .int .i64 f.to] 64 (0, 0))) :
    wr.cell? ⟨n, 0, none⟩ = some (.int .i64 f.at_) ∧ wr.cell? ⟨n, 1, none⟩ = some (.int .i64 f.kind) ∧ wr.cell? ⟨n, 2, none⟩ = some (.int .i64 f.to) ∧ n < wr.heap.size := by
  refine ⟨?_, ?_, ?_, (Array.getElem?_eq_some_iff.1 h).1⟩ <;> (rw [cell_of_row _ n _ _ _ _ h]; rfl)

section
variable {G : Nat → Prop} {pd pp : Nat} {D : Dsk} {P : Pow}
set_option maxHeartbeats 4000000 in
set_option maxRecDepth 1000000 in
theorem rdflush_any (key : Int) (w : World) (h : IsRDisk w G pd pp D) (hp : IsRPow w G pp P) (hfl : D.fl.length ≤ 1000000) (hlen : D.c.l.length ≤ 1000000) :
    Calls Tryz.prog 33 #[.pointer (some ⟨pd, 0, none⟩), .int .u64 key] w (ROutIs G pd pp (D.flushO P key) w) := by
  have H := Lib.hid h
  have HP := Lib.hid hp
  obtain ⟨b1, b2, _⟩ := D.begin_fl P key
  have hl2 : (D.begin_ P key).d.c.l.length ≤ 1000000 := by rw [b2]; exact hlen
  obtain ⟨b, hb⟩ : ∃ b, D.begin_ P key = b := ⟨_, rfl⟩
  have HE := Lib.hid hb
  rw [hb] at hl2
  obtain ⟨bp, bd, be, bf⟩ := b
  simp only at hl2
  by_cases hE : be = 0
  · have hO : D.flushO P key = ⟨0, bd.flushD, bp⟩ := by unfold Dsk.flushO; rw [hb, if_pos hE]
    rw [hO]
    subst hE
    clear hO h hp b1 b2 hb
    go_enter Tryz.func33, Tryz.ntmps33
    go_wp2_with (first | (go_at_call 64; refine (rbegin_any key _ H.out HP.out hfl).mono ?_; rintro e w1 ⟨rfl, hD, hP, hF⟩; rw [HE.out] at hD hP ⊢; have hb0 : Below w1.heap.size w1 (w1.alloc (.cells #[.int .i64 bf.at_, .int .i64 bf.kind, .int .i64 bf.to] 64)) := (Below.refl _ _).alloc (Nat.le_refl _) _; obtain ⟨pc, A, c, h1⟩ := hD.below hb0; obtain ⟨k5, _, _, _, _, _, _, _, _, _, _, hl⟩ := h1.cells; have h1' := h1; have P1 := Lib.hid (hP.below hb0); have D1 := Lib.hid h1; have C1 := Lib.hid h1.cache; have Hg := Lib.hid (show (bd.c.d.ops bd.c.l).g = bd.g by rw [Med.ops_g]; exact h1'.geo); have F1 := Lib.hid (hF.call hb0); clear hD hP hF hb0 h1 h1') | (go_at_call 68; refine (grflush_any G pc bd.c.d bd.c.l _ C1.out hl2).mono ?_; rintro e w2 ⟨rfl, hC, hF⟩; obtain ⟨g1, g2⟩ := D1.out.cached hF (x := bd.c.flush) hC Hg.out; obtain ⟨_, _, _, _, _, _, _, _, _, _, k15, hl2'⟩ := g1.cells; have f15 := g1.fz 15; have P2 := Lib.hid (P1.out.cached hF); have G1 := Lib.hid g1; have G2 := Lib.hid g2; clear hC hF g1 g2))
    go_ret
    obtain ⟨g3, g4⟩ := G1.out.store (D' := bd.flushD) (i := 15) (v := .int .i64 (inc bd.s3)) rfl rfl rfl rfl
    exact ⟨rfl, ⟨pc, A, c, g3⟩, IsRPow.setD P2.out G1.out.hasD 15 _, (F1.out.trans G2.out).trans g4⟩
  · have hO : D.flushO P key = ⟨be, bd, bp⟩ := by unfold Dsk.flushO; rw [hb, if_neg hE]
    rw [hO]
    have hx : (be != 0) = true := by simpa using hE
    clear hO h hp b1 b2 hb hE
    go_enter Tryz.func33, Tryz.ntmps33
    go_wp2_with (go_at_call 64; refine (rbegin_any key _ H.out HP.out hfl).mono ?_; rintro e w1 ⟨rfl, hD, hP, hF⟩; rw [HE.out] at hD hP ⊢; have X := Lib.hid hD; have Y := Lib.hid hP; have Z := Lib.hid hF; clear hD hP hF)
    go_ret
    have hb0 : Below w1.heap.size w1 (w1.alloc (.cells #[.int .i64 bf.at_, .int .i64 bf.kind, .int .i64 bf.to] 64)) := (Below.refl _ _).alloc (Nat.le_refl _) _
    exact ⟨rfl, X.out.below hb0, Y.out.below hb0, Z.out.call hb0⟩
end
end Go.Proofs.YtmloiifnadaaoaaGreat
/- The walks of the reference of package disk: Erase, Read, Write. -/
namespace Go.Proofs.YtmloiifnadaaoaaGreat
open Go.RowKit
set_option linter.unusedVariables false
set_option linter.unusedSimpArgs false

section
variable {G : Nat → Prop} {pd pp : Nat} {D : Dsk} {P : Pow}
theorem RDiskAt.store1 {w : World} {pc : Nat} {A : Option Addr} {c : Nat} (h : RDiskAt w G pd pp pc A c D) (hp : IsRPow w G pp P) : (RDiskAt (w.setCell ⟨pd, 13, none⟩ (.int .i64 (inc D.s1))) G pd pp pc A c { D with s1 := inc D.s1 } ∧ FrG G rdiskTs w (w.setCell ⟨pd, 13, none⟩ (.int .i64 (inc D.s1)))) ∧ IsRPow (w.setCell ⟨pd, 13, none⟩ (.int .i64 (inc D.s1))) G pp P :=
  ⟨h.store (i := 13) (v := .int .i64 (inc D.s1)) rfl rfl rfl rfl, IsRPow.setD hp h.hasD 13 _⟩
def RReadOut (G : Nat → Prop) (pd pp : Nat) (o : Out) (bs : List UInt8) (w : World) (e : Ending) (w' : World) : Prop :=
  ∃ A c, e = .returned (.tuple #[.slice A bs.length c, .int .i64 o.e]) ∧ BytesT w' A bs ∧ IsRDisk w' G pd pp o.d ∧ IsRPow w' G pp o.p ∧ FrG G rdiskTs w w'
theorem rread_stop {w w1 : World} {o : Out} {bs : List UInt8} (hF : FrG G rdiskTs w w1) (h : IsRDisk w1 G pd pp o.d) (hp : IsRPow w1 G pp o.p) (hb : bs = []) {e : Ending} {w2 : World} (hB : Below w1.heap.size w1 w2) (he : e = .returned (.tuple #[.slice none 0 0, .int .i64 o.e])) : RReadOut G pd pp o bs w e w2 := by
  subst hb
  exact ⟨none, 0, he, .inl rfl, h.below hB, hp.below hB, hF.call hB⟩

set_option maxHeartbeats 4000000 in
set_option maxRecDepth 1000000 in
theorem rderase_any (key k : Int) (w : World) (h : IsRDisk w G pd pp D) (hp : IsRPow w G pp P) (hfl : D.fl.length ≤ 1000000) (hlen : D.c.l.length ≤ 1000000) :
    Calls Tryz.prog 32 #[.pointer (some ⟨pd, 0, none⟩), .int .u64 key, .int .i64 k] w (ROutIs G pd pp (D.eraseO P key k) w) := by
  have H := Lib.hid h
  have HP := Lib.hid hp
  obtain ⟨b1, b2, _⟩ := D.begin_fl P key
  have hl2 : (D.begin_ P key).d.c.l.length ≤ 1000000 := by rw [b2]; exact hlen
  obtain ⟨b, hb⟩ : ∃ b, D.begin_ P key = b := ⟨_, rfl⟩
  have HE := Lib.hid hb
  rw [hb] at hl2
  obtain ⟨bp, bd, be, bf⟩ := b
  obtain ⟨fa, fk, ft⟩ := bf
  simp only at hl2
  by_cases hE : be = 0
  · have hO : D.eraseO P key k = ⟨bd.eraseE k, bd.eraseD k, bp⟩ := by unfold Dsk.eraseO; rw [hb, if_pos hE]
    rw [hO]
    subst hE
    clear hO h hp b1 b2 hb
    have GEO := fun (h1' : bd.c.d.g = bd.g) => Lib.hid (show (bd.c.put ⟨true, k, []⟩).d.g = bd.g from h1')
    have DO : ∀ E, bd.eraseE k = E → (bd.c.d.ops bd.c.l).opE ⟨true, k, []⟩ = E := fun E h => h
    rcases Dsk.eraseE_cases bd k with h2 | h0
    · have hd : bd.eraseD k = bd := by unfold Dsk.eraseD; rw [if_neg (by rw [h2]; decide)]
      have hop := DO _ h2
      rw [hd, h2]
      have HO := Lib.hid hop
      clear hd h2 hop DO
      go_enter Tryz.func32, Tryz.ntmps32
      go_wp2_with (first | (go_at_call 64; refine (rbegin_any key _ H.out HP.out hfl).mono ?_; rintro e w1 ⟨rfl, hD, hP, hF⟩; rw [HE.out] at hD hP ⊢; have hb0 : Below w1.heap.size w1 (w1.alloc (.cells #[.int .i64 fa, .int .i64 fk, .int .i64 ft] 64)) := (Below.refl _ _).alloc (Nat.le_refl _) _; have D1 := Lib.hid (hD.below hb0); have P1 := Lib.hid (hP.below hb0); have F1 := Lib.hid (hF.call hb0); have X1 : (w1.alloc (.cells #[.int .i64 fa, .int .i64 fk, .int .i64 ft] 64)).heap[w1.heap.size]? = _ := heap_alloc_new _ _; have X1' := Lib.hid X1; obtain ⟨pc, A, c, h1⟩ := D1.out; obtain ⟨k5, _, _, _, _, _, _, _, _, _, _, hl⟩ := h1.cells; have A1 := Lib.hid h1; have C1 := Lib.hid h1.cache; have Hg := Lib.hid h1.geo; clear h1; clear hD hP hF hb0 X1) | (go_at_call 67; refine (grdo_any G pc bd.c.d bd.c.l true k [] none 0 _ C1.out (.inl rfl) (by decide) hl2).mono ?_; rintro e w2 ⟨rfl, hC, hF⟩; rw [HO.out]; rw [push_bad (by rw [HO.out]; decide)] at hC; obtain ⟨g1, g2⟩ := A1.out.cached hF (x := bd.c) hC Hg.out; have P2 := Lib.hid (P1.out.cached hF); have G1 := Lib.hid g1; have G2 := Lib.hid g2; clear hC hF g1 g2))
      go_ret
      exact ⟨rfl, ⟨pc, A, c, G1.out⟩, P2.out, F1.out.trans G2.out⟩
    · have hd : bd.eraseD k = { bd with s2 := inc bd.s2, c := bd.c.put ⟨true, k, []⟩ } := by unfold Dsk.eraseD; rw [if_pos h0]
      have hop := DO _ h0
      rw [hd, h0]
      have HO := Lib.hid hop
      clear hd h0 hop DO
      go_enter Tryz.func32, Tryz.ntmps32
      go_wp2_with (first | (go_at_call 64; refine (rbegin_any key _ H.out HP.out hfl).mono ?_; rintro e w1 ⟨rfl, hD, hP, hF⟩; rw [HE.out] at hD hP ⊢; have hb0 : Below w1.heap.size w1 (w1.alloc (.cells #[.int .i64 fa, .int .i64 fk, .int .i64 ft] 64)) := (Below.refl _ _).alloc (Nat.le_refl _) _; have D1 := Lib.hid (hD.below hb0); have P1 := Lib.hid (hP.below hb0); have F1 := Lib.hid (hF.call hb0); have X1 : (w1.alloc (.cells #[.int .i64 fa, .int .i64 fk, .int .i64 ft] 64)).heap[w1.heap.size]? = _ := heap_alloc_new _ _; have X1' := Lib.hid X1; obtain ⟨pc, A, c, h1⟩ := D1.out; obtain ⟨k5, _, _, _, _, _, _, _, _, _, _, hl⟩ := h1.cells; have A1 := Lib.hid h1; have C1 := Lib.hid h1.cache; have Hg := GEO h1.geo; clear h1; clear hD hP hF hb0 X1) | (go_at_call 67; refine (grdo_any G pc bd.c.d bd.c.l true k [] none 0 _ C1.out (.inl rfl) (by decide) hl2).mono ?_; rintro e w2 ⟨rfl, hC, hF⟩; rw [HO.out]; obtain ⟨g1, g2⟩ := A1.out.cached hF (x := bd.c.put ⟨true, k, []⟩) hC Hg.out; obtain ⟨_, _, _, _, _, _, _, _, _, k14, _, hl9⟩ := g1.cells; have f14 := g1.fz 14; have P2 := Lib.hid (P1.out.cached hF); have G1 := Lib.hid g1; have G2 := Lib.hid g2; clear hC hF g1 g2))
      go_ret
      obtain ⟨g3, g4⟩ := G1.out.store (D' := { bd with s2 := inc bd.s2, c := bd.c.put ⟨true, k, []⟩ }) (i := 14) (v := .int .i64 (inc bd.s2)) rfl rfl rfl rfl
      exact ⟨rfl, ⟨pc, A, c, g3⟩, IsRPow.setD P2.out G1.out.hasD 14 _, (F1.out.trans G2.out).trans g4⟩
  · have hO : D.eraseO P key k = ⟨be, bd, bp⟩ := by unfold Dsk.eraseO; rw [hb, if_neg hE]
    rw [hO]
    have hx : (be != 0) = true := by simpa using hE
    clear hO h hp b1 b2 hb hE
    go_enter Tryz.func32, Tryz.ntmps32
    go_wp2_with (go_at_call 64; refine (rbegin_any key _ H.out HP.out hfl).mono ?_; rintro e w1 ⟨rfl, hD, hP, hF⟩; rw [HE.out] at hD hP ⊢; have X := Lib.hid hD; have Y := Lib.hid hP; have Z := Lib.hid hF; clear hD hP hF)
    have hb0 : Below w1.heap.size w1 (w1.alloc (.cells #[.int .i64 fa, .int .i64 fk, .int .i64 ft] 64)) := (Below.refl _ _).alloc (Nat.le_refl _) _
    go_ret
    exact ⟨rfl, X.out.below hb0, Y.out.below hb0, Z.out.call hb0⟩

set_option maxHeartbeats 4000000 in
set_option maxRecDepth 1000000 in
theorem rdread_any (key a : Int) (w : World) (h : IsRDisk w G pd pp D) (hp : IsRPow w G pp P) (hfl : D.fl.length ≤ 1000000) (hlen : D.c.l.length ≤ 1000000) :
    Calls Tryz.prog 30 #[.pointer (some ⟨pd, 0, none⟩), .int .u64 key, .int .i64 a] w (RReadOut G pd pp (D.readO P key a) (D.readBs P key a) w) := by
  have H := Lib.hid h
  have HP := Lib.hid hp
  obtain ⟨b1, b2, _⟩ := D.begin_fl P key
  have hl2 : (D.begin_ P key).d.c.l.length ≤ 1000000 := by rw [b2]; exact hlen
  obtain ⟨b, hb⟩ : ∃ b, D.begin_ P key = b := ⟨_, rfl⟩
  have HE := Lib.hid hb
  rw [hb] at hl2
  obtain ⟨bp, bd, be, bf⟩ := b
  obtain ⟨fa, fk, ft⟩ := bf
  simp only at hl2
  by_cases hE : be = 0
  · have hO : D.readO P key a = ⟨bd.readE ⟨fa, fk, ft⟩ a, bd.readD ⟨fa, fk, ft⟩ a, bp⟩ := by unfold Dsk.readO; rw [hb, if_pos hE]
    have hQ : D.readBs P key a = bd.readB ⟨fa, fk, ft⟩ a := by unfold Dsk.readBs; rw [hb, if_pos hE]
    rw [hO, hQ]
    subst hE
    clear hO hQ h hp b1 b2 hb
    cases hh : bd.has a with
    | false =>
      have e1 : bd.readE ⟨fa, fk, ft⟩ a = 2 := by unfold Dsk.readE; rw [if_pos hh]
      have e2 : bd.readB ⟨fa, fk, ft⟩ a = [] := by unfold Dsk.readB; rw [if_neg (by rw [e1]; decide)]
      have e3 : bd.readD ⟨fa, fk, ft⟩ a = bd := by unfold Dsk.readD; rw [if_neg (by rw [e1]; decide)]
      rw [e1, e2, e3]
      have Hh := Lib.hid hh
      clear e1 e2 e3 hh
      go_enter Tryz.func30, Tryz.ntmps30
      go_wp2_with (first | (go_at_call 64; refine (rbegin_any key _ H.out HP.out hfl).mono ?_; rintro e w1 ⟨rfl, hD, hP, hF⟩; rw [HE.out] at hD hP ⊢; have hb0 : Below w1.heap.size w1 (w1.alloc (.cells #[.int .i64 fa, .int .i64 fk, .int .i64 ft] 64)) := (Below.refl _ _).alloc (Nat.le_refl _) _; have D1 := Lib.hid (hD.below hb0); have P1 := Lib.hid (hP.below hb0); have F1 := Lib.hid (hF.call hb0); have X1 : (w1.alloc (.cells #[.int .i64 fa, .int .i64 fk, .int .i64 ft] 64)).heap[w1.heap.size]? = _ := heap_alloc_new _ _; have X1' := Lib.hid X1; skip; clear hD hP hF hb0 X1) | (go_at_call 65; refine (rdhas_any a _ D1.out).mono ?_; rintro e w2 ⟨rfl, hB⟩; rw [Hh.out]; obtain ⟨x0, x1, x2, hx0⟩ := fbox (f := ⟨fa, fk, ft⟩) ((hB.block _ (by simp)).trans X1'.out); have D2 := Lib.hid (D1.out.below hB); have P2 := Lib.hid (P1.out.below hB); have B2 := Lib.hid hB;  clear hB))
      go_ret2
      exact rread_stop F1.out D1.out P1.out rfl B2.out rfl
    | true =>
      have Hh := Lib.hid hh
      by_cases k4 : fk = 4
      · subst k4
        have e1 : bd.readE ⟨fa, 4, ft⟩ a = 15 := by unfold Dsk.readE; rw [if_neg (by rw [hh]; decide), if_pos rfl]
        have e2 : bd.readB ⟨fa, 4, ft⟩ a = [] := by unfold Dsk.readB; rw [if_neg (by rw [e1]; decide)]
        have e3 : bd.readD ⟨fa, 4, ft⟩ a = bd := by unfold Dsk.readD; rw [if_neg (by rw [e1]; decide)]
        rw [e1, e2, e3]
        clear e1 e2 e3 hh
        go_enter Tryz.func30, Tryz.ntmps30
        go_wp2_with (first | (go_at_call 64; refine (rbegin_any key _ H.out HP.out hfl).mono ?_; rintro e w1 ⟨rfl, hD, hP, hF⟩; rw [HE.out] at hD hP ⊢; have hb0 : Below w1.heap.size w1 (w1.alloc (.cells #[.int .i64 fa, .int .i64 4, .int .i64 ft] 64)) := (Below.refl _ _).alloc (Nat.le_refl _) _; have D1 := Lib.hid (hD.below hb0); have P1 := Lib.hid (hP.below hb0); have F1 := Lib.hid (hF.call hb0); have X1 : (w1.alloc (.cells #[.int .i64 fa, .int .i64 4, .int .i64 ft] 64)).heap[w1.heap.size]? = _ := heap_alloc_new _ _; have X1' := Lib.hid X1; skip; clear hD hP hF hb0 X1) | (go_at_call 65; refine (rdhas_any a _ D1.out).mono ?_; rintro e w2 ⟨rfl, hB⟩; rw [Hh.out]; obtain ⟨x0, x1, x2, hx0⟩ := fbox (f := ⟨fa, 4, ft⟩) ((hB.block _ (by simp)).trans X1'.out); have D2 := Lib.hid (D1.out.below hB); have P2 := Lib.hid (P1.out.below hB); have B2 := Lib.hid hB;  clear hB))
        go_ret2
        exact rread_stop F1.out D1.out P1.out rfl B2.out rfl

      by_cases k5 : fk = 5
      · subst k5
        clear k4
        obtain ⟨E, hEE⟩ : ∃ E, (bd.c.d.ops bd.c.l).readE (ft) = E := ⟨_, rfl⟩
        obtain ⟨L, hL⟩ : ∃ L, (bd.c.d.ops bd.c.l).readB (ft) = L := ⟨_, rfl⟩
        have hto : Dsk.readTo a ⟨fa, 5, ft⟩ = ft := by unfold Dsk.readTo; rw [if_pos rfl]
        have hm : bd.m = bd.c.d.ops bd.c.l := rfl
        by_cases h0 : E = 0
        · subst h0
          have e1 : bd.readE ⟨fa, 5, ft⟩ a = 0 := by unfold Dsk.readE; rw [if_neg (by rw [hh]; decide), if_neg (by simp only; first | exact k4 | decide), hto, hm, if_pos hEE]
          have e2 : bd.readB ⟨fa, 5, ft⟩ a = L := by unfold Dsk.readB; rw [if_pos e1, hto, hm, hL]
          have e3 : bd.readD ⟨fa, 5, ft⟩ a = { bd with s0 := inc bd.s0 } := by unfold Dsk.readD; rw [if_pos e1]
          rw [e1, e2, e3]
          have HEE := Lib.hid hEE
          have HL := Lib.hid hL
          clear e1 e2 e3 hh hEE hL hto hm
          go_enter Tryz.func30, Tryz.ntmps30
          go_wp2_with (first | (go_at_call 64; refine (rbegin_any key _ H.out HP.out hfl).mono ?_; rintro e w1 ⟨rfl, hD, hP, hF⟩; rw [HE.out] at hD hP ⊢; have hb0 : Below w1.heap.size w1 (w1.alloc (.cells #[.int .i64 fa, .int .i64 5, .int .i64 ft] 64)) := (Below.refl _ _).alloc (Nat.le_refl _) _; have D1 := Lib.hid (hD.below hb0); have P1 := Lib.hid (hP.below hb0); have F1 := Lib.hid (hF.call hb0); have X1 : (w1.alloc (.cells #[.int .i64 fa, .int .i64 5, .int .i64 ft] 64)).heap[w1.heap.size]? = _ := heap_alloc_new _ _; have X1' := Lib.hid X1; skip; clear hD hP hF hb0 X1) | (go_at_call 65; refine (rdhas_any a _ D1.out).mono ?_; rintro e w2 ⟨rfl, hB⟩; rw [Hh.out]; obtain ⟨x0, x1, x2, hx0⟩ := fbox (f := ⟨fa, 5, ft⟩) ((hB.block _ (by simp)).trans X1'.out); have D2 := Lib.hid (D1.out.below hB); have P2 := Lib.hid (P1.out.below hB); have B2 := Lib.hid hB; obtain ⟨pc, A, c, h1⟩ := D2.out; obtain ⟨k5', _, _, _, _, _, _, _, _, _, _, hl⟩ := h1.cells; have C2 := Lib.hid h1.cache.toC; clear h1; clear hB) | (go_at_call 66; refine (rcread_any 0 pc bd.c.d bd.c.l (ft) _ C2.out hl2).mono ?_; rintro e w3 ⟨A5, c5, rfl, hbt, hB3⟩; rw [HEE.out]; rw [HL.out] at hbt ⊢; have D3 := D2.out.below hB3; obtain ⟨pc3, A3, c3, h3⟩ := D3; obtain ⟨_, _, _, _, _, _, _, k12, _, _, _, hl9⟩ := h3.cells; have f12 := h3.fz 12; have A3' := Lib.hid h3; have P3 := Lib.hid (P2.out.below hB3); have T3 := Lib.hid hbt; have B3 := Lib.hid (F1.out.call (below_of hB3 B2.out)); clear h3 hbt hB3))
          go_ret2
          obtain ⟨g3, g4⟩ := A3'.out.store (D' := { bd with s0 := inc bd.s0 }) (i := 12) (v := .int .i64 (inc bd.s0)) rfl rfl rfl rfl
          exact ⟨A5, c5, rfl, T3.out.keep g4 (fun k hk hh => avoid_TG (Us := [5]) (by decide) k _ hk (by simp) hh), ⟨pc3, A3, c3, g3⟩, IsRPow.setD P3.out A3'.out.hasD 12 _, B3.out.trans g4⟩
        · have hne : (E != 0) = true := by simpa using h0
          have e1 : bd.readE ⟨fa, 5, ft⟩ a = 15 := by unfold Dsk.readE; rw [if_neg (by rw [hh]; decide), if_neg (by simp only; first | exact k4 | decide), hto, hm, if_neg (by rw [hEE]; exact h0)]
          have e2 : bd.readB ⟨fa, 5, ft⟩ a = [] := by unfold Dsk.readB; rw [if_neg (by rw [e1]; decide)]
          have e3 : bd.readD ⟨fa, 5, ft⟩ a = bd := by unfold Dsk.readD; rw [if_neg (by rw [e1]; decide)]
          rw [e1, e2, e3]
          have HEE := Lib.hid hEE
          clear e1 e2 e3 hh hEE hL hto hm h0
          go_enter Tryz.func30, Tryz.ntmps30
          go_wp2_with (first | (go_at_call 64; refine (rbegin_any key _ H.out HP.out hfl).mono ?_; rintro e w1 ⟨rfl, hD, hP, hF⟩; rw [HE.out] at hD hP ⊢; have hb0 : Below w1.heap.size w1 (w1.alloc (.cells #[.int .i64 fa, .int .i64 5, .int .i64 ft] 64)) := (Below.refl _ _).alloc (Nat.le_refl _) _; have D1 := Lib.hid (hD.below hb0); have P1 := Lib.hid (hP.below hb0); have F1 := Lib.hid (hF.call hb0); have X1 : (w1.alloc (.cells #[.int .i64 fa, .int .i64 5, .int .i64 ft] 64)).heap[w1.heap.size]? = _ := heap_alloc_new _ _; have X1' := Lib.hid X1; skip; clear hD hP hF hb0 X1) | (go_at_call 65; refine (rdhas_any a _ D1.out).mono ?_; rintro e w2 ⟨rfl, hB⟩; rw [Hh.out]; obtain ⟨x0, x1, x2, hx0⟩ := fbox (f := ⟨fa, 5, ft⟩) ((hB.block _ (by simp)).trans X1'.out); have D2 := Lib.hid (D1.out.below hB); have P2 := Lib.hid (P1.out.below hB); have B2 := Lib.hid hB; obtain ⟨pc, A, c, h1⟩ := D2.out; obtain ⟨k5', _, _, _, _, _, _, _, _, _, _, hl⟩ := h1.cells; have C2 := Lib.hid h1.cache.toC; clear h1; clear hB) | (go_at_call 66; refine (rcread_any 0 pc bd.c.d bd.c.l (ft) _ C2.out hl2).mono ?_; rintro e w3 ⟨A5, c5, rfl, hbt, hB3⟩; rw [HEE.out]; have B3 := Lib.hid (below_of hB3 B2.out); clear hbt hB3))
          go_ret2
          exact rread_stop F1.out D1.out P1.out rfl B3.out rfl
      have b4 : (fk == 4) = false := by simpa using k4
      have b5 : (fk == 5) = false := by simpa using k5
      obtain ⟨E, hEE⟩ : ∃ E, (bd.c.d.ops bd.c.l).readE (a) = E := ⟨_, rfl⟩
      obtain ⟨L, hL⟩ : ∃ L, (bd.c.d.ops bd.c.l).readB (a) = L := ⟨_, rfl⟩
      have hto : Dsk.readTo a ⟨fa, fk, ft⟩ = a := by unfold Dsk.readTo; rw [if_neg k5]
      have hm : bd.m = bd.c.d.ops bd.c.l := rfl
      by_cases h0 : E = 0
      · subst h0
        have e1 : bd.readE ⟨fa, fk, ft⟩ a = 0 := by unfold Dsk.readE; rw [if_neg (by rw [hh]; decide), if_neg (by simp only; first | exact k4 | decide), hto, hm, if_pos hEE]
        have e2 : bd.readB ⟨fa, fk, ft⟩ a = L := by unfold Dsk.readB; rw [if_pos e1, hto, hm, hL]
        have e3 : bd.readD ⟨fa, fk, ft⟩ a = { bd with s0 := inc bd.s0 } := by unfold Dsk.readD; rw [if_pos e1]
        rw [e1, e2, e3]
        have HEE := Lib.hid hEE
        have HL := Lib.hid hL
        clear e1 e2 e3 hh hEE hL hto hm k4 k5
        go_enter Tryz.func30, Tryz.ntmps30
        go_wp2_with (first | (go_at_call 64; refine (rbegin_any key _ H.out HP.out hfl).mono ?_; rintro e w1 ⟨rfl, hD, hP, hF⟩; rw [HE.out] at hD hP ⊢; have hb0 : Below w1.heap.size w1 (w1.alloc (.cells #[.int .i64 fa, .int .i64 fk, .int .i64 ft] 64)) := (Below.refl _ _).alloc (Nat.le_refl _) _; have D1 := Lib.hid (hD.below hb0); have P1 := Lib.hid (hP.below hb0); have F1 := Lib.hid (hF.call hb0); have X1 : (w1.alloc (.cells #[.int .i64 fa, .int .i64 fk, .int .i64 ft] 64)).heap[w1.heap.size]? = _ := heap_alloc_new _ _; have X1' := Lib.hid X1; skip; clear hD hP hF hb0 X1) | (go_at_call 65; refine (rdhas_any a _ D1.out).mono ?_; rintro e w2 ⟨rfl, hB⟩; rw [Hh.out]; obtain ⟨x0, x1, x2, hx0⟩ := fbox (f := ⟨fa, fk, ft⟩) ((hB.block _ (by simp)).trans X1'.out); have D2 := Lib.hid (D1.out.below hB); have P2 := Lib.hid (P1.out.below hB); have B2 := Lib.hid hB; obtain ⟨pc, A, c, h1⟩ := D2.out; obtain ⟨k5', _, _, _, _, _, _, _, _, _, _, hl⟩ := h1.cells; have C2 := Lib.hid h1.cache.toC; clear h1; clear hB) | (go_at_call 66; refine (rcread_any 0 pc bd.c.d bd.c.l (a) _ C2.out hl2).mono ?_; rintro e w3 ⟨A5, c5, rfl, hbt, hB3⟩; rw [HEE.out]; rw [HL.out] at hbt ⊢; have D3 := D2.out.below hB3; obtain ⟨pc3, A3, c3, h3⟩ := D3; obtain ⟨_, _, _, _, _, _, _, k12, _, _, _, hl9⟩ := h3.cells; have f12 := h3.fz 12; have A3' := Lib.hid h3; have P3 := Lib.hid (P2.out.below hB3); have T3 := Lib.hid hbt; have B3 := Lib.hid (F1.out.call (below_of hB3 B2.out)); clear h3 hbt hB3))
        go_ret2
        obtain ⟨g3, g4⟩ := A3'.out.store (D' := { bd with s0 := inc bd.s0 }) (i := 12) (v := .int .i64 (inc bd.s0)) rfl rfl rfl rfl
        exact ⟨A5, c5, rfl, T3.out.keep g4 (fun k hk hh => avoid_TG (Us := [5]) (by decide) k _ hk (by simp) hh), ⟨pc3, A3, c3, g3⟩, IsRPow.setD P3.out A3'.out.hasD 12 _, B3.out.trans g4⟩
      · have hne : (E != 0) = true := by simpa using h0
        have e1 : bd.readE ⟨fa, fk, ft⟩ a = 15 := by unfold Dsk.readE; rw [if_neg (by rw [hh]; decide), if_neg (by simp only; first | exact k4 | decide), hto, hm, if_neg (by rw [hEE]; exact h0)]
        have e2 : bd.readB ⟨fa, fk, ft⟩ a = [] := by unfold Dsk.readB; rw [if_neg (by rw [e1]; decide)]
        have e3 : bd.readD ⟨fa, fk, ft⟩ a = bd := by unfold Dsk.readD; rw [if_neg (by rw [e1]; decide)]
        rw [e1, e2, e3]
        have HEE := Lib.hid hEE
        clear e1 e2 e3 hh hEE hL hto hm h0 k4 k5
        go_enter Tryz.func30, Tryz.ntmps30
        go_wp2_with (first | (go_at_call 64; refine (rbegin_any key _ H.out HP.out hfl).mono ?_; rintro e w1 ⟨rfl, hD, hP, hF⟩; rw [HE.out] at hD hP ⊢; have hb0 : Below w1.heap.size w1 (w1.alloc (.cells #[.int .i64 fa, .int .i64 fk, .int .i64 ft] 64)) := (Below.refl _ _).alloc (Nat.le_refl _) _; have D1 := Lib.hid (hD.below hb0); have P1 := Lib.hid (hP.below hb0); have F1 := Lib.hid (hF.call hb0); have X1 : (w1.alloc (.cells #[.int .i64 fa, .int .i64 fk, .int .i64 ft] 64)).heap[w1.heap.size]? = _ := heap_alloc_new _ _; have X1' := Lib.hid X1; skip; clear hD hP hF hb0 X1) | (go_at_call 65; refine (rdhas_any a _ D1.out).mono ?_; rintro e w2 ⟨rfl, hB⟩; rw [Hh.out]; obtain ⟨x0, x1, x2, hx0⟩ := fbox (f := ⟨fa, fk, ft⟩) ((hB.block _ (by simp)).trans X1'.out); have D2 := Lib.hid (D1.out.below hB); have P2 := Lib.hid (P1.out.below hB); have B2 := Lib.hid hB; obtain ⟨pc, A, c, h1⟩ := D2.out; obtain ⟨k5', _, _, _, _, _, _, _, _, _, _, hl⟩ := h1.cells; have C2 := Lib.hid h1.cache.toC; clear h1; clear hB) | (go_at_call 66; refine (rcread_any 0 pc bd.c.d bd.c.l (a) _ C2.out hl2).mono ?_; rintro e w3 ⟨A5, c5, rfl, hbt, hB3⟩; rw [HEE.out]; have B3 := Lib.hid (below_of hB3 B2.out); clear hbt hB3))
        go_ret2
        exact rread_stop F1.out D1.out P1.out rfl B3.out rfl
  · have hO : D.readO P key a = ⟨be, bd, bp⟩ := by unfold Dsk.readO; rw [hb, if_neg hE]
    have hQ : D.readBs P key a = [] := by unfold Dsk.readBs; rw [hb, if_neg hE]
    rw [hO, hQ]
    have hx : (be != 0) = true := by simpa using hE
    clear hO hQ h hp b1 b2 hb hE
    go_enter Tryz.func30, Tryz.ntmps30
    go_wp2_with (go_at_call 64; refine (rbegin_any key _ H.out HP.out hfl).mono ?_; rintro e w1 ⟨rfl, hD, hP, hF⟩; rw [HE.out] at hD hP ⊢; have X := Lib.hid hD; have Y := Lib.hid hP; have Z := Lib.hid hF; clear hD hP hF)
    have hb0 : Below w1.heap.size w1 (w1.alloc (.cells #[.int .i64 fa, .int .i64 fk, .int .i64 ft] 64)) := (Below.refl _ _).alloc (Nat.le_refl _) _
    go_ret2
    exact rread_stop Z.out X.out Y.out rfl hb0 rfl
end
end Go.Proofs.YtmloiifnadaaoaaGreat
/- The walk of the reference of package disk: Write. -/
namespace Go.Proofs.YtmloiifnadaaoaaGreat
open Go.RowKit
set_option linter.unusedVariables false
set_option linter.unusedSimpArgs false

section
variable {G : Nat → Prop} {pd pp : Nat} {D : Dsk} {P : Pow}
set_option maxHeartbeats 16000000 in
set_option maxRecDepth 1000000 in
theorem rdwrite_any (key a : Int) (A' : Option Addr) (bs : List UInt8) (c' : Nat) (force : Bool) (w : World) (h : IsRDisk w G pd pp D) (hp : IsRPow w G pp P) (hfl : D.fl.length ≤ 1000000) (hlen : D.c.l.length ≤ 900000) (hbs : ∀ w', FrG G rdiskTs w w' → BytesRd w' A' bs) (hcap : bs.length ≤ c') (h63 : bs.length ≤ 140737488351232) :
    Calls Tryz.prog 31 #[.pointer (some ⟨pd, 0, none⟩), .int .u64 key, .int .i64 a, .slice A' bs.length c', .bool force] w (ROutIs G pd pp (D.writeO_ P key a bs force) w) := by
  have H := Lib.hid h
  have HP := Lib.hid hp
  have Hbs := Lib.hid hbs
  obtain ⟨b1, b2, _⟩ := D.begin_fl P key
  have hl2 : (D.begin_ P key).d.c.l.length ≤ 900000 := by rw [b2]; exact hlen
  obtain ⟨b, hb⟩ : ∃ b, D.begin_ P key = b := ⟨_, rfl⟩
  have HE := Lib.hid hb
  rw [hb] at hl2
  obtain ⟨bp, bd, be, bf⟩ := b
  obtain ⟨fa, fk, ft⟩ := bf
  simp only at hl2
  have HPL := Lib.hid (fun o => push_len bd.c.d bd.c.l o)
  clear hbs
  by_cases hE : be = 0
  · have hO : D.writeO_ P key a bs force = ⟨bd.writeE a bs, bd.writeD ⟨fa, fk, ft⟩ a bs force, bp⟩ := by unfold Dsk.writeO_; rw [hb, if_pos hE]
    rw [hO]
    subst hE
    clear hO h hp b1 b2 hb
    cases hh : bd.has a with
    | false =>
      have e1 : bd.writeE a bs = 2 := by unfold Dsk.writeE; rw [if_pos hh]
      have e3 : bd.writeD ⟨fa, fk, ft⟩ a bs force = bd := by unfold Dsk.writeD; rw [if_neg (by rw [e1]; decide)]
      rw [e1, e3]
      have Hh := Lib.hid hh
      clear e1 e3 hh
      go_enter Tryz.func31, Tryz.ntmps31
      go_wp2_with (first | (go_at_call 64; refine (rbegin_any key _ H.out HP.out hfl).mono ?_; rintro e w1 ⟨rfl, hD, hP, hF⟩; rw [HE.out] at hD hP ⊢; have hb0 : Below w1.heap.size w1 (w1.alloc (.cells #[.int .i64 fa, .int .i64 fk, .int .i64 ft] 64)) := (Below.refl _ _).alloc (Nat.le_refl _) _; have hpn : ¬ pd = w1.heap.size := (by obtain ⟨pc9, A9, c9, h9⟩ := hD; have := h9.hasD.lt; omega); have hpn2 : ¬ w1.heap.size = pd := (fun e => hpn e.symm); have D1 := Lib.hid (hD.below hb0); have P1 := Lib.hid (hP.below hb0); have F1 := Lib.hid (hF.call hb0); have X1 : (w1.alloc (.cells #[.int .i64 fa, .int .i64 fk, .int .i64 ft] 64)).heap[w1.heap.size]? = _ := heap_alloc_new _ _; have X1' := Lib.hid X1; clear hD hP hF hb0 X1) | (go_at_call 65; refine (rdhas_any a _ D1.out).mono ?_; rintro e w2 ⟨rfl, hB⟩; rw [Hh.out]; obtain ⟨x0, x1, x2, hx0⟩ := fbox (f := ⟨fa, fk, ft⟩) ((hB.block _ (by simp)).trans X1'.out); have D2 := Lib.hid (D1.out.below hB); have P2 := Lib.hid (P1.out.below hB); have B2 := Lib.hid hB; clear hB))
      go_ret
      exact ⟨rfl, D2.out, P2.out, F1.out.call B2.out⟩
    | true =>
      have Hh := Lib.hid hh
      by_cases h64 : 64 < bs.length
      · have e1 : bd.writeE a bs = 7 := by unfold Dsk.writeE; rw [if_neg (by simp [hh]), if_pos h64]
        have e3 : bd.writeD ⟨fa, fk, ft⟩ a bs force = bd := by unfold Dsk.writeD; rw [if_neg (by rw [e1]; decide)]
        rw [e1, e3]
        clear e1 e3 hh
        go_enter Tryz.func31, Tryz.ntmps31
        go_wp2_with (first | (go_at_call 64; refine (rbegin_any key _ H.out HP.out hfl).mono ?_; rintro e w1 ⟨rfl, hD, hP, hF⟩; rw [HE.out] at hD hP ⊢; have hb0 : Below w1.heap.size w1 (w1.alloc (.cells #[.int .i64 fa, .int .i64 fk, .int .i64 ft] 64)) := (Below.refl _ _).alloc (Nat.le_refl _) _; have hpn : ¬ pd = w1.heap.size := (by obtain ⟨pc9, A9, c9, h9⟩ := hD; have := h9.hasD.lt; omega); have hpn2 : ¬ w1.heap.size = pd := (fun e => hpn e.symm); have D1 := Lib.hid (hD.below hb0); have P1 := Lib.hid (hP.below hb0); have F1 := Lib.hid (hF.call hb0); have X1 : (w1.alloc (.cells #[.int .i64 fa, .int .i64 fk, .int .i64 ft] 64)).heap[w1.heap.size]? = _ := heap_alloc_new _ _; have X1' := Lib.hid X1; clear hD hP hF hb0 X1) | (go_at_call 65; refine (rdhas_any a _ D1.out).mono ?_; rintro e w2 ⟨rfl, hB⟩; rw [Hh.out]; obtain ⟨x0, x1, x2, hx0⟩ := fbox (f := ⟨fa, fk, ft⟩) ((hB.block _ (by simp)).trans X1'.out); have D2 := Lib.hid (D1.out.below hB); have P2 := Lib.hid (P1.out.below hB); have B2 := Lib.hid hB; clear hB))
        go_ret
        exact ⟨rfl, D2.out, P2.out, F1.out.call B2.out⟩
      · have e1 : bd.writeE a bs = 0 := by unfold Dsk.writeE; rw [if_neg (by simp [hh]), if_neg h64]
        have e3 : bd.writeD ⟨fa, fk, ft⟩ a bs force = { bd with s1 := inc bd.s1, c := bd.writeC ⟨fa, fk, ft⟩ a bs force } := by unfold Dsk.writeD; rw [if_pos e1]
        rw [e1, e3]
        clear e1 e3
        by_cases h1 : fk = 1
        · subst h1
          have hwc : bd.writeC ⟨fa, 1, ft⟩ a bs force = bd.c := by unfold Dsk.writeC; rw [if_pos rfl]
          rw [hwc]
          clear hwc hh
          go_enter Tryz.func31, Tryz.ntmps31
          go_wp2_with (first | (go_at_call 64; refine (rbegin_any key _ H.out HP.out hfl).mono ?_; rintro e w1 ⟨rfl, hD, hP, hF⟩; rw [HE.out] at hD hP ⊢; have hb0 : Below w1.heap.size w1 (w1.alloc (.cells #[.int .i64 fa, .int .i64 1, .int .i64 ft] 64)) := (Below.refl _ _).alloc (Nat.le_refl _) _; have hpn : ¬ pd = w1.heap.size := (by obtain ⟨pc9, A9, c9, h9⟩ := hD; have := h9.hasD.lt; omega); have hpn2 : ¬ w1.heap.size = pd := (fun e => hpn e.symm); have D1 := Lib.hid (hD.below hb0); have P1 := Lib.hid (hP.below hb0); have F1 := Lib.hid (hF.call hb0); have X1 : (w1.alloc (.cells #[.int .i64 fa, .int .i64 1, .int .i64 ft] 64)).heap[w1.heap.size]? = _ := heap_alloc_new _ _; have X1' := Lib.hid X1; clear hD hP hF hb0 X1) | (go_at_call 65; refine (rdhas_any a _ D1.out).mono ?_; rintro e w2 ⟨rfl, hB⟩; rw [Hh.out]; obtain ⟨x0, x1, x2, hx0⟩ := fbox (f := ⟨fa, 1, ft⟩) ((hB.block _ (by simp)).trans X1'.out); have P2 := Lib.hid (P1.out.below hB); have B2 := Lib.hid hB; obtain ⟨pc, A, c, h1⟩ := D1.out.below hB; obtain ⟨_, _, _, _, _, _, _, _, k13, _, _, hl⟩ := h1.cells; have f13 := h1.fz 13; have S := Lib.hid (h1.store1 P2.out); clear hB D1 h1))
          go_ret
          exact ⟨rfl, ⟨pc, A, c, S.out.1.1⟩, S.out.2, (F1.out.call B2.out).trans S.out.1.2⟩
        have n1 : (fk == 1) = false := by simpa using h1
        by_cases h2 : fk = 2
        · subst h2
          clear h1 n1
          obtain ⟨n2, hn2⟩ : ∃ n2 : Nat, (bs.length : Int) / 2 = (n2 : Int) := ⟨bs.length / 2, by omega⟩
          have hn2n : bs.length / 2 = n2 := by omega
          obtain ⟨l2, hl2x⟩ : ∃ l2, bs.take (bs.length / 2) = l2 := ⟨_, rfl⟩
          have hl2l : n2 = l2.length := by rw [← hl2x, List.length_take]; omega
          subst hl2l
          have hby64 : l2.length ≤ 64 := by omega
          have hcl2 : (l2.length : Int) ≤ (c' : Int) := by omega
          have hcl0 : (0 : Int) ≤ (l2.length : Int) := by omega
          have Hl2x := Lib.hid hl2x
          have hwo : Dsk.writeO ⟨fa, 2, ft⟩ a bs = ⟨false, a, l2⟩ := by unfold Dsk.writeO; rw [if_neg (by simp only; decide), if_pos rfl, hl2x]
          have n1' : ¬ (⟨fa, 2, ft⟩ : Flt).kind = 1 := by simp only; first | exact h1 | decide
          cases hht : bd.has (a) with
          | false => rw [hht] at hh; cases hh
          | true =>
            have Hh2 := Lib.hid (show ({ bd with s1 := inc bd.s1 } : Dsk).has (a) = true from hht)
            cases force with
            | false =>
              have hwc : bd.writeC ⟨fa, 2, ft⟩ a bs false = bd.c.put ⟨false, a, l2⟩ := by unfold Dsk.writeC; rw [if_neg n1', hwo, if_neg (by rw [hht]; decide)]; rfl
              rw [hwc]
              clear hwc hh hht hwo n1' hl2x hn2n
              go_enter Tryz.func31, Tryz.ntmps31
              go_wp2_with (first | (go_at_call 64; refine (rbegin_any key _ H.out HP.out hfl).mono ?_; rintro e w1 ⟨rfl, hD, hP, hF⟩; rw [HE.out] at hD hP ⊢; have hb0 : Below w1.heap.size w1 (w1.alloc (.cells #[.int .i64 fa, .int .i64 2, .int .i64 ft] 64)) := (Below.refl _ _).alloc (Nat.le_refl _) _; have hpn : ¬ pd = w1.heap.size := (by obtain ⟨pc9, A9, c9, h9⟩ := hD; have := h9.hasD.lt; omega); have hpn2 : ¬ w1.heap.size = pd := (fun e => hpn e.symm); have D1 := Lib.hid (hD.below hb0); have P1 := Lib.hid (hP.below hb0); have F1 := Lib.hid (hF.call hb0); have X1 : (w1.alloc (.cells #[.int .i64 fa, .int .i64 2, .int .i64 ft] 64)).heap[w1.heap.size]? = _ := heap_alloc_new _ _; have X1' := Lib.hid X1; clear hD hP hF hb0 X1) | (go_at_call 65; refine (rdhas_any a _ D1.out).mono ?_; rintro e w2 ⟨rfl, hB⟩; rw [Hh.out]; obtain ⟨x0, x1, x2, hx0⟩ := fbox (f := ⟨fa, 2, ft⟩) ((hB.block _ (by simp)).trans X1'.out); have P2 := Lib.hid (P1.out.below hB); have B2 := Lib.hid hB; obtain ⟨pc, A, c, h1⟩ := D1.out.below hB; obtain ⟨_, _, _, _, _, _, _, _, k13, _, _, hl⟩ := h1.cells; have f13 := h1.fz 13; have S := Lib.hid (h1.store1 P2.out); clear hB D1 h1) | (go_at_call 65; refine (rdhas_any (a) _ ⟨pc, A, c, S.out.1.1⟩).mono ?_; rintro e w4 ⟨rfl, hB4⟩; rw [Hh2.out]; obtain ⟨pc4, A4, c4, h4⟩ := (show IsRDisk _ G pd pp _ from ⟨pc, A, c, S.out.1.1⟩).below hB4; obtain ⟨k5, _, _, _, _, _, _, _, _, _, _, hl4⟩ := h4.cells; have D4 := Lib.hid h4; have C4 := Lib.hid h4.cache; have P4 := Lib.hid (S.out.2.below hB4); have Hg := Lib.hid (show (bd.c.put ⟨false, a, l2⟩).d.g = bd.g from h4.geo); have Hg2 := Lib.hid (show (bd.c.put ⟨false, a, l2⟩).flush.d.g = bd.g from (by show (Med.ops _ _).g = _; rw [Med.ops_g]; exact h4.geo)); have F4 := Lib.hid (((F1.out.call B2.out).trans S.out.1.2).call hB4); clear h4 hB4) | (go_at_call 67; refine (grdo_any G pc4 bd.c.d bd.c.l false (a) (l2) A' c' _ C4.out ((by rw [← Hl2x.out]; exact (Hbs.out _ F4.out).take _)) (by omega) (by omega)).mono ?_; rintro e w5 ⟨rfl, hC, hF⟩; obtain ⟨g1, g2⟩ := D4.out.cached hF (x := bd.c.put ⟨false, a, l2⟩) hC Hg.out; obtain ⟨k5', _, _, _, _, _, _, _, _, _, _, hl5⟩ := g1.cells; have P5 := Lib.hid (P4.out.cached hF); have C5 := Lib.hid hC; have G1 := Lib.hid g1; have G2 := Lib.hid (F4.out.trans g2); clear hC hF g1 g2))
              go_ret
              exact ⟨rfl, ⟨pc4, A4, c4, G1.out⟩, P5.out, G2.out⟩
            | true =>
              have hwc : bd.writeC ⟨fa, 2, ft⟩ a bs true = (bd.c.put ⟨false, a, l2⟩).flush := by unfold Dsk.writeC; rw [if_neg n1', hwo, if_neg (by rw [hht]; decide)]; rfl
              rw [hwc]
              clear hwc hh hht hwo n1' hl2x hn2n
              go_enter Tryz.func31, Tryz.ntmps31
              go_wp2_with (first | (go_at_call 64; refine (rbegin_any key _ H.out HP.out hfl).mono ?_; rintro e w1 ⟨rfl, hD, hP, hF⟩; rw [HE.out] at hD hP ⊢; have hb0 : Below w1.heap.size w1 (w1.alloc (.cells #[.int .i64 fa, .int .i64 2, .int .i64 ft] 64)) := (Below.refl _ _).alloc (Nat.le_refl _) _; have hpn : ¬ pd = w1.heap.size := (by obtain ⟨pc9, A9, c9, h9⟩ := hD; have := h9.hasD.lt; omega); have hpn2 : ¬ w1.heap.size = pd := (fun e => hpn e.symm); have D1 := Lib.hid (hD.below hb0); have P1 := Lib.hid (hP.below hb0); have F1 := Lib.hid (hF.call hb0); have X1 : (w1.alloc (.cells #[.int .i64 fa, .int .i64 2, .int .i64 ft] 64)).heap[w1.heap.size]? = _ := heap_alloc_new _ _; have X1' := Lib.hid X1; clear hD hP hF hb0 X1) | (go_at_call 65; refine (rdhas_any a _ D1.out).mono ?_; rintro e w2 ⟨rfl, hB⟩; rw [Hh.out]; obtain ⟨x0, x1, x2, hx0⟩ := fbox (f := ⟨fa, 2, ft⟩) ((hB.block _ (by simp)).trans X1'.out); have P2 := Lib.hid (P1.out.below hB); have B2 := Lib.hid hB; obtain ⟨pc, A, c, h1⟩ := D1.out.below hB; obtain ⟨_, _, _, _, _, _, _, _, k13, _, _, hl⟩ := h1.cells; have f13 := h1.fz 13; have S := Lib.hid (h1.store1 P2.out); clear hB D1 h1) | (go_at_call 65; refine (rdhas_any (a) _ ⟨pc, A, c, S.out.1.1⟩).mono ?_; rintro e w4 ⟨rfl, hB4⟩; rw [Hh2.out]; obtain ⟨pc4, A4, c4, h4⟩ := (show IsRDisk _ G pd pp _ from ⟨pc, A, c, S.out.1.1⟩).below hB4; obtain ⟨k5, _, _, _, _, _, _, _, _, _, _, hl4⟩ := h4.cells; have D4 := Lib.hid h4; have C4 := Lib.hid h4.cache; have P4 := Lib.hid (S.out.2.below hB4); have Hg := Lib.hid (show (bd.c.put ⟨false, a, l2⟩).d.g = bd.g from h4.geo); have Hg2 := Lib.hid (show (bd.c.put ⟨false, a, l2⟩).flush.d.g = bd.g from (by show (Med.ops _ _).g = _; rw [Med.ops_g]; exact h4.geo)); have F4 := Lib.hid (((F1.out.call B2.out).trans S.out.1.2).call hB4); clear h4 hB4) | (go_at_call 67; refine (grdo_any G pc4 bd.c.d bd.c.l false (a) (l2) A' c' _ C4.out ((by rw [← Hl2x.out]; exact (Hbs.out _ F4.out).take _)) (by omega) (by omega)).mono ?_; rintro e w5 ⟨rfl, hC, hF⟩; obtain ⟨g1, g2⟩ := D4.out.cached hF (x := bd.c.put ⟨false, a, l2⟩) hC Hg.out; obtain ⟨k5', _, _, _, _, _, _, _, _, _, _, hl5⟩ := g1.cells; have P5 := Lib.hid (P4.out.cached hF); have C5 := Lib.hid hC; have G1 := Lib.hid g1; have G2 := Lib.hid (F4.out.trans g2); clear hC hF g1 g2) | (go_at_call 68; refine (grflush_any G pc4 bd.c.d (push bd.c.d bd.c.l ⟨false, a, l2⟩) _ C5.out (by have := HPL.out ⟨false, a, l2⟩; omega)).mono ?_; rintro e w6 ⟨rfl, hC, hF⟩; obtain ⟨g1, g2⟩ := G1.out.cached hF (x := (bd.c.put ⟨false, a, l2⟩).flush) hC Hg2.out; have P6 := Lib.hid (P5.out.cached hF); have G6 := Lib.hid g1; have F6 := Lib.hid (G2.out.trans g2); clear hC hF g1 g2))
              go_ret
              exact ⟨rfl, ⟨pc4, A4, c4, G6.out⟩, P6.out, F6.out⟩
        have n2 : (fk == 2) = false := by simpa using h2
        by_cases h3 : fk = 3
        · subst h3
          clear h1 n1 h2 n2
          have hwo : Dsk.writeO ⟨fa, 3, ft⟩ a bs = ⟨false, ft, bs⟩ := by unfold Dsk.writeO; rw [if_pos rfl, if_neg (by simp only; decide)]
          have n1' : ¬ (⟨fa, 3, ft⟩ : Flt).kind = 1 := by simp only; first | exact h1 | decide
          cases hht : bd.has (ft) with
          | false =>
            have hwc : bd.writeC ⟨fa, 3, ft⟩ a bs force = bd.c := by unfold Dsk.writeC; rw [if_neg n1', hwo, if_pos hht]
            rw [hwc]
            have Hh2 := Lib.hid (show ({ bd with s1 := inc bd.s1 } : Dsk).has (ft) = false from hht)
            clear hwc hh hht hwo n1'
            go_enter Tryz.func31, Tryz.ntmps31
            go_wp2_with (first | (go_at_call 64; refine (rbegin_any key _ H.out HP.out hfl).mono ?_; rintro e w1 ⟨rfl, hD, hP, hF⟩; rw [HE.out] at hD hP ⊢; have hb0 : Below w1.heap.size w1 (w1.alloc (.cells #[.int .i64 fa, .int .i64 3, .int .i64 ft] 64)) := (Below.refl _ _).alloc (Nat.le_refl _) _; have hpn : ¬ pd = w1.heap.size := (by obtain ⟨pc9, A9, c9, h9⟩ := hD; have := h9.hasD.lt; omega); have hpn2 : ¬ w1.heap.size = pd := (fun e => hpn e.symm); have D1 := Lib.hid (hD.below hb0); have P1 := Lib.hid (hP.below hb0); have F1 := Lib.hid (hF.call hb0); have X1 : (w1.alloc (.cells #[.int .i64 fa, .int .i64 3, .int .i64 ft] 64)).heap[w1.heap.size]? = _ := heap_alloc_new _ _; have X1' := Lib.hid X1; clear hD hP hF hb0 X1) | (go_at_call 65; refine (rdhas_any a _ D1.out).mono ?_; rintro e w2 ⟨rfl, hB⟩; rw [Hh.out]; obtain ⟨x0, x1, x2, hx0⟩ := fbox (f := ⟨fa, 3, ft⟩) ((hB.block _ (by simp)).trans X1'.out); have P2 := Lib.hid (P1.out.below hB); have B2 := Lib.hid hB; obtain ⟨pc, A, c, h1⟩ := D1.out.below hB; obtain ⟨_, _, _, _, _, _, _, _, k13, _, _, hl⟩ := h1.cells; have f13 := h1.fz 13; have S := Lib.hid (h1.store1 P2.out); clear hB D1 h1) | (go_at_call 65; refine (rdhas_any (ft) _ ⟨pc, A, c, S.out.1.1⟩).mono ?_; rintro e w4 ⟨rfl, hB4⟩; rw [Hh2.out]; obtain ⟨pc4, A4, c4, h4⟩ := (show IsRDisk _ G pd pp _ from ⟨pc, A, c, S.out.1.1⟩).below hB4; obtain ⟨k5, _, _, _, _, _, _, _, _, _, _, hl4⟩ := h4.cells; have D4 := Lib.hid h4; have C4 := Lib.hid h4.cache; have P4 := Lib.hid (S.out.2.below hB4); have Hg := Lib.hid (show (bd.c.put ⟨false, ft, bs⟩).d.g = bd.g from h4.geo); have Hg2 := Lib.hid (show (bd.c.put ⟨false, ft, bs⟩).flush.d.g = bd.g from (by show (Med.ops _ _).g = _; rw [Med.ops_g]; exact h4.geo)); have F4 := Lib.hid (((F1.out.call B2.out).trans S.out.1.2).call hB4); clear h4 hB4))
            go_ret
            exact ⟨rfl, ⟨pc4, A4, c4, D4.out⟩, P4.out, F4.out⟩
          | true =>
            have Hh2 := Lib.hid (show ({ bd with s1 := inc bd.s1 } : Dsk).has (ft) = true from hht)
            cases force with
            | false =>
              have hwc : bd.writeC ⟨fa, 3, ft⟩ a bs false = bd.c.put ⟨false, ft, bs⟩ := by unfold Dsk.writeC; rw [if_neg n1', hwo, if_neg (by rw [hht]; decide)]; rfl
              rw [hwc]
              clear hwc hh hht hwo n1'
              go_enter Tryz.func31, Tryz.ntmps31
              go_wp2_with (first | (go_at_call 64; refine (rbegin_any key _ H.out HP.out hfl).mono ?_; rintro e w1 ⟨rfl, hD, hP, hF⟩; rw [HE.out] at hD hP ⊢; have hb0 : Below w1.heap.size w1 (w1.alloc (.cells #[.int .i64 fa, .int .i64 3, .int .i64 ft] 64)) := (Below.refl _ _).alloc (Nat.le_refl _) _; have hpn : ¬ pd = w1.heap.size := (by obtain ⟨pc9, A9, c9, h9⟩ := hD; have := h9.hasD.lt; omega); have hpn2 : ¬ w1.heap.size = pd := (fun e => hpn e.symm); have D1 := Lib.hid (hD.below hb0); have P1 := Lib.hid (hP.below hb0); have F1 := Lib.hid (hF.call hb0); have X1 : (w1.alloc (.cells #[.int .i64 fa, .int .i64 3, .int .i64 ft] 64)).heap[w1.heap.size]? = _ := heap_alloc_new _ _; have X1' := Lib.hid X1; clear hD hP hF hb0 X1) | (go_at_call 65; refine (rdhas_any a _ D1.out).mono ?_; rintro e w2 ⟨rfl, hB⟩; rw [Hh.out]; obtain ⟨x0, x1, x2, hx0⟩ := fbox (f := ⟨fa, 3, ft⟩) ((hB.block _ (by simp)).trans X1'.out); have P2 := Lib.hid (P1.out.below hB); have B2 := Lib.hid hB; obtain ⟨pc, A, c, h1⟩ := D1.out.below hB; obtain ⟨_, _, _, _, _, _, _, _, k13, _, _, hl⟩ := h1.cells; have f13 := h1.fz 13; have S := Lib.hid (h1.store1 P2.out); clear hB D1 h1) | (go_at_call 65; refine (rdhas_any (ft) _ ⟨pc, A, c, S.out.1.1⟩).mono ?_; rintro e w4 ⟨rfl, hB4⟩; rw [Hh2.out]; obtain ⟨pc4, A4, c4, h4⟩ := (show IsRDisk _ G pd pp _ from ⟨pc, A, c, S.out.1.1⟩).below hB4; obtain ⟨k5, _, _, _, _, _, _, _, _, _, _, hl4⟩ := h4.cells; have D4 := Lib.hid h4; have C4 := Lib.hid h4.cache; have P4 := Lib.hid (S.out.2.below hB4); have Hg := Lib.hid (show (bd.c.put ⟨false, ft, bs⟩).d.g = bd.g from h4.geo); have Hg2 := Lib.hid (show (bd.c.put ⟨false, ft, bs⟩).flush.d.g = bd.g from (by show (Med.ops _ _).g = _; rw [Med.ops_g]; exact h4.geo)); have F4 := Lib.hid (((F1.out.call B2.out).trans S.out.1.2).call hB4); clear h4 hB4) | (go_at_call 67; refine (grdo_any G pc4 bd.c.d bd.c.l false (ft) (bs) A' c' _ C4.out ((Hbs.out _ F4.out)) (by omega) (by omega)).mono ?_; rintro e w5 ⟨rfl, hC, hF⟩; obtain ⟨g1, g2⟩ := D4.out.cached hF (x := bd.c.put ⟨false, ft, bs⟩) hC Hg.out; obtain ⟨k5', _, _, _, _, _, _, _, _, _, _, hl5⟩ := g1.cells; have P5 := Lib.hid (P4.out.cached hF); have C5 := Lib.hid hC; have G1 := Lib.hid g1; have G2 := Lib.hid (F4.out.trans g2); clear hC hF g1 g2))
              go_ret
              exact ⟨rfl, ⟨pc4, A4, c4, G1.out⟩, P5.out, G2.out⟩
            | true =>
              have hwc : bd.writeC ⟨fa, 3, ft⟩ a bs true = (bd.c.put ⟨false, ft, bs⟩).flush := by unfold Dsk.writeC; rw [if_neg n1', hwo, if_neg (by rw [hht]; decide)]; rfl
              rw [hwc]
              clear hwc hh hht hwo n1'
              go_enter Tryz.func31, Tryz.ntmps31
              go_wp2_with (first | (go_at_call 64; refine (rbegin_any key _ H.out HP.out hfl).mono ?_; rintro e w1 ⟨rfl, hD, hP, hF⟩; rw [HE.out] at hD hP ⊢; have hb0 : Below w1.heap.size w1 (w1.alloc (.cells #[.int .i64 fa, .int .i64 3, .int .i64 ft] 64)) := (Below.refl _ _).alloc (Nat.le_refl _) _; have hpn : ¬ pd = w1.heap.size := (by obtain ⟨pc9, A9, c9, h9⟩ := hD; have := h9.hasD.lt; omega); have hpn2 : ¬ w1.heap.size = pd := (fun e => hpn e.symm); have D1 := Lib.hid (hD.below hb0); have P1 := Lib.hid (hP.below hb0); have F1 := Lib.hid (hF.call hb0); have X1 : (w1.alloc (.cells #[.int .i64 fa, .int .i64 3, .int .i64 ft] 64)).heap[w1.heap.size]? = _ := heap_alloc_new _ _; have X1' := Lib.hid X1; clear hD hP hF hb0 X1) | (go_at_call 65; refine (rdhas_any a _ D1.out).mono ?_; rintro e w2 ⟨rfl, hB⟩; rw [Hh.out]; obtain ⟨x0, x1, x2, hx0⟩ := fbox (f := ⟨fa, 3, ft⟩) ((hB.block _ (by simp)).trans X1'.out); have P2 := Lib.hid (P1.out.below hB); have B2 := Lib.hid hB; obtain ⟨pc, A, c, h1⟩ := D1.out.below hB; obtain ⟨_, _, _, _, _, _, _, _, k13, _, _, hl⟩ := h1.cells; have f13 := h1.fz 13; have S := Lib.hid (h1.store1 P2.out); clear hB D1 h1) | (go_at_call 65; refine (rdhas_any (ft) _ ⟨pc, A, c, S.out.1.1⟩).mono ?_; rintro e w4 ⟨rfl, hB4⟩; rw [Hh2.out]; obtain ⟨pc4, A4, c4, h4⟩ := (show IsRDisk _ G pd pp _ from ⟨pc, A, c, S.out.1.1⟩).below hB4; obtain ⟨k5, _, _, _, _, _, _, _, _, _, _, hl4⟩ := h4.cells; have D4 := Lib.hid h4; have C4 := Lib.hid h4.cache; have P4 := Lib.hid (S.out.2.below hB4); have Hg := Lib.hid (show (bd.c.put ⟨false, ft, bs⟩).d.g = bd.g from h4.geo); have Hg2 := Lib.hid (show (bd.c.put ⟨false, ft, bs⟩).flush.d.g = bd.g from (by show (Med.ops _ _).g = _; rw [Med.ops_g]; exact h4.geo)); have F4 := Lib.hid (((F1.out.call B2.out).trans S.out.1.2).call hB4); clear h4 hB4) | (go_at_call 67; refine (grdo_any G pc4 bd.c.d bd.c.l false (ft) (bs) A' c' _ C4.out ((Hbs.out _ F4.out)) (by omega) (by omega)).mono ?_; rintro e w5 ⟨rfl, hC, hF⟩; obtain ⟨g1, g2⟩ := D4.out.cached hF (x := bd.c.put ⟨false, ft, bs⟩) hC Hg.out; obtain ⟨k5', _, _, _, _, _, _, _, _, _, _, hl5⟩ := g1.cells; have P5 := Lib.hid (P4.out.cached hF); have C5 := Lib.hid hC; have G1 := Lib.hid g1; have G2 := Lib.hid (F4.out.trans g2); clear hC hF g1 g2) | (go_at_call 68; refine (grflush_any G pc4 bd.c.d (push bd.c.d bd.c.l ⟨false, ft, bs⟩) _ C5.out (by have := HPL.out ⟨false, ft, bs⟩; omega)).mono ?_; rintro e w6 ⟨rfl, hC, hF⟩; obtain ⟨g1, g2⟩ := G1.out.cached hF (x := (bd.c.put ⟨false, ft, bs⟩).flush) hC Hg2.out; have P6 := Lib.hid (P5.out.cached hF); have G6 := Lib.hid g1; have F6 := Lib.hid (G2.out.trans g2); clear hC hF g1 g2))
              go_ret
              exact ⟨rfl, ⟨pc4, A4, c4, G6.out⟩, P6.out, F6.out⟩
        have n3 : (fk == 3) = false := by simpa using h3
        have hwo : Dsk.writeO ⟨fa, fk, ft⟩ a bs = ⟨false, a, bs⟩ := by unfold Dsk.writeO; rw [if_neg h3, if_neg h2]
        have n1' : ¬ (⟨fa, fk, ft⟩ : Flt).kind = 1 := by simp only; first | exact h1 | decide
        cases hht : bd.has (a) with
        | false => rw [hht] at hh; cases hh
        | true =>
          have Hh2 := Lib.hid (show ({ bd with s1 := inc bd.s1 } : Dsk).has (a) = true from hht)
          cases force with
          | false =>
            have hwc : bd.writeC ⟨fa, fk, ft⟩ a bs false = bd.c.put ⟨false, a, bs⟩ := by unfold Dsk.writeC; rw [if_neg n1', hwo, if_neg (by rw [hht]; decide)]; rfl
            rw [hwc]
            clear hwc hh hht hwo n1' h1 h2 h3
            go_enter Tryz.func31, Tryz.ntmps31
            go_wp2_with (first | (go_at_call 64; refine (rbegin_any key _ H.out HP.out hfl).mono ?_; rintro e w1 ⟨rfl, hD, hP, hF⟩; rw [HE.out] at hD hP ⊢; have hb0 : Below w1.heap.size w1 (w1.alloc (.cells #[.int .i64 fa, .int .i64 fk, .int .i64 ft] 64)) := (Below.refl _ _).alloc (Nat.le_refl _) _; have hpn : ¬ pd = w1.heap.size := (by obtain ⟨pc9, A9, c9, h9⟩ := hD; have := h9.hasD.lt; omega); have hpn2 : ¬ w1.heap.size = pd := (fun e => hpn e.symm); have D1 := Lib.hid (hD.below hb0); have P1 := Lib.hid (hP.below hb0); have F1 := Lib.hid (hF.call hb0); have X1 : (w1.alloc (.cells #[.int .i64 fa, .int .i64 fk, .int .i64 ft] 64)).heap[w1.heap.size]? = _ := heap_alloc_new _ _; have X1' := Lib.hid X1; clear hD hP hF hb0 X1) | (go_at_call 65; refine (rdhas_any a _ D1.out).mono ?_; rintro e w2 ⟨rfl, hB⟩; rw [Hh.out]; obtain ⟨x0, x1, x2, hx0⟩ := fbox (f := ⟨fa, fk, ft⟩) ((hB.block _ (by simp)).trans X1'.out); have P2 := Lib.hid (P1.out.below hB); have B2 := Lib.hid hB; obtain ⟨pc, A, c, h1⟩ := D1.out.below hB; obtain ⟨_, _, _, _, _, _, _, _, k13, _, _, hl⟩ := h1.cells; have f13 := h1.fz 13; have S := Lib.hid (h1.store1 P2.out); clear hB D1 h1) | (go_at_call 65; refine (rdhas_any (a) _ ⟨pc, A, c, S.out.1.1⟩).mono ?_; rintro e w4 ⟨rfl, hB4⟩; rw [Hh2.out]; obtain ⟨pc4, A4, c4, h4⟩ := (show IsRDisk _ G pd pp _ from ⟨pc, A, c, S.out.1.1⟩).below hB4; obtain ⟨k5, _, _, _, _, _, _, _, _, _, _, hl4⟩ := h4.cells; have D4 := Lib.hid h4; have C4 := Lib.hid h4.cache; have P4 := Lib.hid (S.out.2.below hB4); have Hg := Lib.hid (show (bd.c.put ⟨false, a, bs⟩).d.g = bd.g from h4.geo); have Hg2 := Lib.hid (show (bd.c.put ⟨false, a, bs⟩).flush.d.g = bd.g from (by show (Med.ops _ _).g = _; rw [Med.ops_g]; exact h4.geo)); have F4 := Lib.hid (((F1.out.call B2.out).trans S.out.1.2).call hB4); clear h4 hB4) | (go_at_call 67; refine (grdo_any G pc4 bd.c.d bd.c.l false (a) (bs) A' c' _ C4.out ((Hbs.out _ F4.out)) (by omega) (by omega)).mono ?_; rintro e w5 ⟨rfl, hC, hF⟩; obtain ⟨g1, g2⟩ := D4.out.cached hF (x := bd.c.put ⟨false, a, bs⟩) hC Hg.out; obtain ⟨k5', _, _, _, _, _, _, _, _, _, _, hl5⟩ := g1.cells; have P5 := Lib.hid (P4.out.cached hF); have C5 := Lib.hid hC; have G1 := Lib.hid g1; have G2 := Lib.hid (F4.out.trans g2); clear hC hF g1 g2))
            go_ret
            exact ⟨rfl, ⟨pc4, A4, c4, G1.out⟩, P5.out, G2.out⟩
          | true =>
            have hwc : bd.writeC ⟨fa, fk, ft⟩ a bs true = (bd.c.put ⟨false, a, bs⟩).flush := by unfold Dsk.writeC; rw [if_neg n1', hwo, if_neg (by rw [hht]; decide)]; rfl
            rw [hwc]
            clear hwc hh hht hwo n1' h1 h2 h3
            go_enter Tryz.func31, Tryz.ntmps31
            go_wp2_with (first | (go_at_call 64; refine (rbegin_any key _ H.out HP.out hfl).mono ?_; rintro e w1 ⟨rfl, hD, hP, hF⟩; rw [HE.out] at hD hP ⊢; have hb0 : Below w1.heap.size w1 (w1.alloc (.cells #[.int .i64 fa, .int .i64 fk, .int .i64 ft] 64)) := (Below.refl _ _).alloc (Nat.le_refl _) _; have hpn : ¬ pd = w1.heap.size := (by obtain ⟨pc9, A9, c9, h9⟩ := hD; have := h9.hasD.lt; omega); have hpn2 : ¬ w1.heap.size = pd := (fun e => hpn e.symm); have D1 := Lib.hid (hD.below hb0); have P1 := Lib.hid (hP.below hb0); have F1 := Lib.hid (hF.call hb0); have X1 : (w1.alloc (.cells #[.int .i64 fa, .int .i64 fk, .int .i64 ft] 64)).heap[w1.heap.size]? = _ := heap_alloc_new _ _; have X1' := Lib.hid X1; clear hD hP hF hb0 X1) | (go_at_call 65; refine (rdhas_any a _ D1.out).mono ?_; rintro e w2 ⟨rfl, hB⟩; rw [Hh.out]; obtain ⟨x0, x1, x2, hx0⟩ := fbox (f := ⟨fa, fk, ft⟩) ((hB.block _ (by simp)).trans X1'.out); have P2 := Lib.hid (P1.out.below hB); have B2 := Lib.hid hB; obtain ⟨pc, A, c, h1⟩ := D1.out.below hB; obtain ⟨_, _, _, _, _, _, _, _, k13, _, _, hl⟩ := h1.cells; have f13 := h1.fz 13; have S := Lib.hid (h1.store1 P2.out); clear hB D1 h1) | (go_at_call 65; refine (rdhas_any (a) _ ⟨pc, A, c, S.out.1.1⟩).mono ?_; rintro e w4 ⟨rfl, hB4⟩; rw [Hh2.out]; obtain ⟨pc4, A4, c4, h4⟩ := (show IsRDisk _ G pd pp _ from ⟨pc, A, c, S.out.1.1⟩).below hB4; obtain ⟨k5, _, _, _, _, _, _, _, _, _, _, hl4⟩ := h4.cells; have D4 := Lib.hid h4; have C4 := Lib.hid h4.cache; have P4 := Lib.hid (S.out.2.below hB4); have Hg := Lib.hid (show (bd.c.put ⟨false, a, bs⟩).d.g = bd.g from h4.geo); have Hg2 := Lib.hid (show (bd.c.put ⟨false, a, bs⟩).flush.d.g = bd.g from (by show (Med.ops _ _).g = _; rw [Med.ops_g]; exact h4.geo)); have F4 := Lib.hid (((F1.out.call B2.out).trans S.out.1.2).call hB4); clear h4 hB4) | (go_at_call 67; refine (grdo_any G pc4 bd.c.d bd.c.l false (a) (bs) A' c' _ C4.out ((Hbs.out _ F4.out)) (by omega) (by omega)).mono ?_; rintro e w5 ⟨rfl, hC, hF⟩; obtain ⟨g1, g2⟩ := D4.out.cached hF (x := bd.c.put ⟨false, a, bs⟩) hC Hg.out; obtain ⟨k5', _, _, _, _, _, _, _, _, _, _, hl5⟩ := g1.cells; have P5 := Lib.hid (P4.out.cached hF); have C5 := Lib.hid hC; have G1 := Lib.hid g1; have G2 := Lib.hid (F4.out.trans g2); clear hC hF g1 g2) | (go_at_call 68; refine (grflush_any G pc4 bd.c.d (push bd.c.d bd.c.l ⟨false, a, bs⟩) _ C5.out (by have := HPL.out ⟨false, a, bs⟩; omega)).mono ?_; rintro e w6 ⟨rfl, hC, hF⟩; obtain ⟨g1, g2⟩ := G1.out.cached hF (x := (bd.c.put ⟨false, a, bs⟩).flush) hC Hg2.out; have P6 := Lib.hid (P5.out.cached hF); have G6 := Lib.hid g1; have F6 := Lib.hid (G2.out.trans g2); clear hC hF g1 g2))
            go_ret
            exact ⟨rfl, ⟨pc4, A4, c4, G6.out⟩, P6.out, F6.out⟩
  · have hO : D.writeO_ P key a bs force = ⟨be, bd, bp⟩ := by unfold Dsk.writeO_; rw [hb, if_neg hE]
    rw [hO]
    have hx : (be != 0) = true := by simpa using hE
    clear hO h hp b1 b2 hb hE
    go_enter Tryz.func31, Tryz.ntmps31
    go_wp2_with (go_at_call 64; refine (rbegin_any key _ H.out HP.out hfl).mono ?_; rintro e w1 ⟨rfl, hD, hP, hF⟩; rw [HE.out] at hD hP ⊢; have X := Lib.hid hD; have Y := Lib.hid hP; have Z := Lib.hid hF; clear hD hP hF)
    have hb0 : Below w1.heap.size w1 (w1.alloc (.cells #[.int .i64 fa, .int .i64 fk, .int .i64 ft] 64)) := (Below.refl _ _).alloc (Nat.le_refl _) _
    go_ret
    exact ⟨rfl, X.out.below hb0, Y.out.below hb0, Z.out.call hb0⟩
end
end Go.Proofs.YtmloiifnadaaoaaGreat
