/- The walks of package disk: Flush, Erase. -/
import Derived.Test.YtmloiifnadaaoaaDskV3
import Derived.Test.YtmloiifnadaaoaaDskV4
namespace Go.Proofs.Ytmloiifnadaaoaa
open Go.RowKit
set_option linter.unusedVariables false
set_option linter.unusedSimpArgs false

/-- What an operation of a disk leaves. -/
structure Out where
  e : Int
  d : Dsk
  p : Pow
def Dsk.flushO (D : Dsk) (P : Pow) (key : Int) : Out := if (D.begin_ P key).e = 0 then ⟨0, (D.begin_ P key).d.flushD, (D.begin_ P key).p⟩ else ⟨(D.begin_ P key).e, (D.begin_ P key).d, (D.begin_ P key).p⟩
def Dsk.eraseO (D : Dsk) (P : Pow) (key k : Int) : Out := if (D.begin_ P key).e = 0 then ⟨(D.begin_ P key).d.eraseE k, (D.begin_ P key).d.eraseD k, (D.begin_ P key).p⟩ else ⟨(D.begin_ P key).e, (D.begin_ P key).d, (D.begin_ P key).p⟩
def OutIs (G : Nat → Prop) (pd pp : Nat) (o : Out) (w : World) (e : Ending) (w' : World) : Prop :=
  e = .returned (.int .i64 o.e) ∧ IsDisk w' G pd pp o.d ∧ IsPow w' G pp o.p ∧ FrG G diskTs w w'

section
variable {G : Nat → Prop} {pd pp : Nat} {D : Dsk} {P : Pow}
theorem Dsk.begin_zero {key : Int} (h : (D.begin_ P key).e = 0) : D.state P = 0 ∧ P.call.off = false ∧ key = D.key ∧ D.flt.kind ≠ 7 ∧ D.flt.kind ≠ 6 := by
  unfold Dsk.begin_ at h
  split at h
  · rename_i h1; exact absurd h h1
  · rename_i h1
    have h1 : D.state P = 0 := Decidable.not_not.1 h1
    split at h
    · cases h
    · rename_i h2
      split at h
      · cases h
      · rename_i h3
        split at h
        · cases h
        · rename_i h4
          split at h
          · cases h
          · rename_i h5; exact ⟨h1, by simpa using h2, Decidable.not_not.1 h3, h4, h5⟩
theorem Dsk.begin_is {key : Int} (h : (D.begin_ P key).e = 0) : D.begin_ P key = ⟨P.call, { D with count := inc D.count }, 0, D.flt⟩ := by
  obtain ⟨h1, h2, h3, h4, h5⟩ := Dsk.begin_zero h
  exact Dsk.begin_go h1 h2 h3 h4 h5
/-- The disk behind an operation of its cache. -/
theorem DiskAt.cached {w w2 : World} {pc : Nat} {A : Option Addr} {c : Nat} (h : DiskAt w G pd pp pc A c D) (hF : FrG G cacheTs w w2) {x : Cch} (hC : IsGache w2 G pc x.d x.l) (hg : x.d.g = D.g) :
    DiskAt w2 G pd pp pc A c { D with c := x } ∧ FrG G diskTs w w2 := by
  have hA : Avoid (TG G cacheTs w) w [159, 152] := avoid_TG (by decide)
  exact ⟨⟨(Fr.block hF pd h.hasD.lt (hA.not h.hasD (by simp))).trans h.head, hC, h.flts.keepA hF (hA.sub (by simp)), h.own, hg⟩, hF.mono (fun _ _ h => h) (by decide)⟩
theorem IsPow.cached {w w2 : World} (h : IsPow w G pp P) (hF : FrG G cacheTs w w2) : IsPow w2 G pp P := h.keepA hF (avoid_TG (by decide))
/-- A captured variable stands where only disks turn. -/
theorem cap_cell {w w1 : World} {b : Nat} {T : TypeId} {v : Value} (hT : HasT w b T) (hc : w.cell? ⟨b, 0, none⟩ = some v) (hF : FrG G diskTs w w1) (hn : (!diskTs.contains T) = true) : w1.cell? ⟨b, 0, none⟩ = some v ∧ HasT w1 b T := by
  have hA : ¬ TG G diskTs w b := by
    rintro ⟨_, T', h1, h2⟩
    have hne : T' ≠ T := by rintro rfl; simp at hn; simp at h1; simp_all
    exact h2.ne hT hne rfl
  exact ⟨Fr.cell hF hc hA, hT.keep hF hA⟩

set_option maxHeartbeats 4000000 in
set_option maxRecDepth 1000000 in
theorem fclosD_any (b0 : Nat) (fa fk ft : Int) (w : World) (h : IsDisk w G pd pp D) (hp : IsPow w G pp P) (hG : ∀ k, w.heap.size ≤ k → G k) (hlen : D.c.l.length ≤ 1000000) (cb : w.cell? ⟨b0, 0, none⟩ = some (.pointer (some ⟨pd, 0, none⟩))) (hb : HasT w b0 91) :
    Calls Try.prog 126 #[.agg #[.int .i64 fa, .int .i64 fk, .int .i64 ft], .pointer (some ⟨b0, 0, none⟩)] w (WorkIs fun x w' => x = 0 ∧ IsDisk w' G pd pp D.flushD ∧ IsPow w' G pp P ∧ FrG G diskTs w w') := by
  have hb0 : Below w.heap.size w (w.alloc (.cells #[.int .i64 fa, .int .i64 fk, .int .i64 ft] 152)) := (Below.refl _ _).alloc (Nat.le_refl _) _
  obtain ⟨pc, A, c, h⟩ := h.below hb0
  obtain ⟨_, _, _, _, _, k10, _, _, _, _, _, hl⟩ := h.cells
  have C := Lib.hid h.cache
  have H := Lib.hid h
  have HP := Lib.hid (hp.below hb0)
  have HG := Lib.hid hG
  have HB := Lib.hid hb0
  have HT := Lib.hid (show HasT (w.alloc (.cells #[.int .i64 fa, .int .i64 fk, .int .i64 ft] 152)) b0 91 from hb.keep (Fr.ofBelow hb0 (fun _ => False)) id)
  have cb0 := cell_later hb0 cb
  have hbl := hb.lt
  have hg := h.geo
  have Hgeo := Lib.hid (show (D.c.d.ops D.c.l).g = D.g by rw [Med.ops_g]; exact h.geo)
  clear h hp hG hb hb0 hg
  go_enter Try.func126, Try.ntmps126
  go_wp2_with (go_at_call 64; refine (gflush_any G pc D.c.d D.c.l _ C.out (fun k hk => HG.out k (Nat.le_trans HB.out.size hk)) hlen).mono ?_; rintro e w2 ⟨rfl, hC, hF⟩; obtain ⟨g1, g2⟩ := H.out.cached hF (x := ⟨D.c.d.ops D.c.l, []⟩) hC Hgeo.out; obtain ⟨_, _, _, k3, _, _, _, _, _, _, _, hl2⟩ := g1.cells; have f3 := g1.fz 3; have P2 := Lib.hid (HP.out.cached hF); have cb2 := (cap_cell HT.out cb0 g2 (by decide)).1; have G1 := Lib.hid g1; have G2 := Lib.hid g2; clear hC hF g1 g2)
  go_ret
  obtain ⟨g3, g4⟩ := G1.out.store (D' := D.flushD) (i := 3) (v := .int .i64 (inc D.s3)) rfl rfl rfl rfl
  exact ⟨0, rfl, rfl, ⟨pc, A, c, g3⟩, P2.out.setD G1.out.hasD 3 _, ((FrG.ofBelow HB.out).trans G2.out).trans g4⟩

set_option maxHeartbeats 4000000 in
set_option maxRecDepth 1000000 in
theorem dflush_any (key : Int) (w : World) (h : IsDisk w G pd pp D) (hp : IsPow w G pp P) (hG : ∀ k, w.heap.size ≤ k → G k) (hfl : D.fl.length ≤ 1000000) (hlen : D.c.l.length ≤ 1000000) :
    Calls Try.prog 94 #[.pointer (some ⟨pd, 0, none⟩), .int .u64 key] w (OutIs G pd pp (D.flushO P key) w) := by
  have hb0 : Below w.heap.size w (w.alloc (.cells #[.pointer (some ⟨pd, 0, none⟩)] 91)) := (Below.refl _ _).alloc (Nat.le_refl _) _
  have H := Lib.hid (h.below hb0)
  have HP := Lib.hid (hp.below hb0)
  have HB := Lib.hid hb0
  have HG := Lib.hid hG
  have T0 : HasT (w.alloc (.cells #[.pointer (some ⟨pd, 0, none⟩)] 91)) w.heap.size 91 := ⟨_, _, heap_alloc_new _ _⟩
  have c0 : (w.alloc (.cells #[.pointer (some ⟨pd, 0, none⟩)] 91)).cell? ⟨w.heap.size, 0, none⟩ = some (.pointer (some ⟨pd, 0, none⟩)) := by rw [World.cell?_alloc_mark]; rfl
  have HT := Lib.hid T0
  have Hc0 := Lib.hid c0
  clear h hp hG T0 c0 hb0
  by_cases hE : (D.begin_ P key).e = 0
  · have hO : D.flushO P key = ⟨0, ({ D with count := inc D.count } : Dsk).flushD, P.call⟩ := by unfold Dsk.flushO; rw [if_pos hE, Dsk.begin_is hE]
    rw [hO]
    obtain ⟨hs, hc, hk, h7, h6⟩ := Dsk.begin_zero hE
    subst hk
    clear hO hE
    obtain ⟨f, hf⟩ : ∃ f, D.flt = f := ⟨_, rfl⟩
    rw [hf] at h7 h6
    obtain ⟨fa, fk, ft⟩ := f
    have HS := Lib.hid hs
    have HC := Lib.hid hc
    have HF := Lib.hid hf
    have H7 := Lib.hid h7
    have H6 := Lib.hid h6
    clear hs hc hf h7 h6
    go_enter Try.func94, Try.ntmps94
    go_wp2_with (go_at_call 125; refine (dperform_flush w.heap.size (fun x w' => x = 0 ∧ IsDisk w' G pd pp ({ D with count := inc D.count } : Dsk).flushD ∧ IsPow w' G pp P.call ∧ FrG G diskTs w w') fa fk ft _ H.out HP.out hfl HS.out HC.out HF.out H7.out H6.out (fun w1 h1 p1 f1 => (fclosD_any w.heap.size fa fk ft w1 h1 p1 (fun k hk => HG.out k (Nat.le_trans HB.out.size (Nat.le_trans f1.size hk))) hlen (cap_cell HT.out Hc0.out f1 (by decide)).1 (cap_cell HT.out Hc0.out f1 (by decide)).2).mono (fun e w' ⟨x, e1, e2, e3, e4, e5⟩ => ⟨x, e1, e2, e3, e4, (((FrG.ofBelow HB.out).trans f1).trans e5)⟩))).mono ?_; rintro e w2 ⟨x, rfl, rfl, hD, hP, hF⟩; have HD := Lib.hid hD; have HP2 := Lib.hid hP; have HF2 := Lib.hid hF; clear hD hP hF)
    go_ret
    exact ⟨rfl, HD.out, HP2.out, HF2.out⟩
  · have hO : D.flushO P key = ⟨(D.begin_ P key).e, (D.begin_ P key).d, (D.begin_ P key).p⟩ := by unfold Dsk.flushO; rw [if_neg hE]
    rw [hO]
    have HE := Lib.hid hE
    clear hO hE
    go_enter Try.func94, Try.ntmps94
    go_wp2_with (go_at_call 125; refine (dperform_stop key _ _ H.out HP.out hfl HE.out).mono ?_; rintro e w2 ⟨rfl, hD, hP, hF⟩; have HD := Lib.hid hD; have HP2 := Lib.hid hP; have HF2 := Lib.hid hF; clear hD hP hF)
    go_ret
    exact ⟨rfl, HD.out, HP2.out, (FrG.ofBelow HB.out).trans HF2.out⟩
end
end Go.Proofs.Ytmloiifnadaaoaa
