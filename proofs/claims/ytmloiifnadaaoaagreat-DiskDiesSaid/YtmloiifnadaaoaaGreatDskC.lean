/- The walks of package disk: Flush, Erase. -/
import Derived.Test.YtmloiifnadaaoaaGreatDskVb
import Derived.Test.YtmloiifnadaaoaaGreatDskVa
namespace Go.Proofs.YtmloiifnadaaoaaGreat
open Go.RowKit
set_option linter.unusedVariables false
set_option linter.unusedSimpArgs false

/-- What an operation of a disk leaves. -/
structure Out where
  e : Int
  d : Dsk
  p : Pow
def Dsk.flushO (D : Dsk) (P : Pow) (key : Int) : Out := if (D.begin_ P key).e = 0 then ⟨0, (D.begin_ P key).d.flushD, (D.begin_ P key).p⟩ else ⟨(D.begin_ P key).e, (D.begin_ P key).d, (D.begin_ P key).p⟩
def Dsk.eraseO (D : Dsk) (P : Pow) (key k : Int) : Out := if (D.begin_ P key).e = 0 then ⟨(D.begin_ P key).d.eraseE k, (D.begin_ P key).d.eraseD k, (D.begin_ P key).p⟩ else ⟨(D.begin_ P key).e, (D.begin_ P key).d, (D.begin_ P key).p⟩
def OutIs (G : Nat → Prop) (pd pp : Nat) (o : Out) (w : World) (e : Ending) (w' : World) : Prop :=
  e = .returned (.int .i64 o.e) ∧ IsDisk w' G pd pp o.d ∧ IsPow w' G pp o.p ∧ FrG G diskTs w w'

section
variable {G : Nat → Prop} {pd pp : Nat} {D : Dsk} {P : Pow}
theorem Dsk.begin_zero {key : Int} (h : (D.begin_ P key).e = 0) : D.state P = 0 ∧ P.call.off = false ∧ key = D.key ∧ D.flt.kind ≠ 7 ∧ D.flt.kind ≠ 6 := by
  unfold Dsk.begin_ at h
  split at h
  · rename_i h1; exact absurd h h1
  · rename_i h1
    have h1 : D.state P = 0 := Decidable.not_not.1 h1
    split at h
    · cases h
    · rename_i h2
      split at h
      · cases h
      · rename_i h3
        split at h
        · cases h
        · rename_i h4
          split at h
          · cases h
          · rename_i h5; exact ⟨h1, by simpa using h2, Decidable.not_not.1 h3, h4, h5⟩
theorem Dsk.begin_is {key : Int} (h : (D.begin_ P key).e = 0) : D.begin_ P key = ⟨P.call, { D with count := inc D.count }, 0, D.flt⟩ := by
  obtain ⟨h1, h2, h3, h4, h5⟩ := Dsk.begin_zero h
  exact Dsk.begin_go h1 h2 h3 h4 h5
/-- The disk behind an operation of its cache. -/
theorem DiskAt.cached {w w2 : World} {pc : Nat} {A : Option Addr} {c : Nat} (h : DiskAt w G pd pp pc A c D) (hF : FrG G cacheTs w w2) {x : Cch} (hC : IsGache w2 G pc x.d x.l) (hg : x.d.g = D.g) :
    DiskAt w2 G pd pp pc A c { D with c := x } ∧ FrG G diskTs w w2 := by
  have hA : Avoid (TG G cacheTs w) w [79, 64] := avoid_TG (by decide)
  exact ⟨⟨(Fr.block hF pd h.hasD.lt (hA.not h.hasD (by simp))).trans h.head, hC, h.flts.keepA hF (hA.sub (by simp)), h.own, hg⟩, hF.mono (fun _ _ h => h) (by decide)⟩
theorem IsPow.cached {w w2 : World} (h : IsPow w G pp P) (hF : FrG G cacheTs w w2) : IsPow w2 G pp P := h.keepA hF (avoid_TG (by decide))
/-- A captured variable stands where only disks turn. -/
theorem cap_cell {w w1 : World} {b : Nat} {T : TypeId} {v : Value} (hT : HasT w b T) (hc : w.cell? ⟨b, 0, none⟩ = some v) (hF : FrG G diskTs w w1) (hn : (!diskTs.contains T) = true) : w1.cell? ⟨b, 0, none⟩ = some v ∧ HasT w1 b T := by
  have hA : ¬ TG G diskTs w b := by
    rintro ⟨_, T', h1, h2⟩
    have hne : T' ≠ T := by rintro rfl; simp at hn; simp at h1; simp_all
    exact h2.ne hT hne rfl
  exact ⟨Fr.cell hF hc hA, hT.keep hF hA⟩

set_option maxHeartbeats 4000000 in
set_option maxRecDepth 1000000 in
theorem fclosD_any (b0 : Nat) (fa fk ft : Int) (w : World) (h : IsDisk w G pd pp D) (hp : IsPow w G pp P) (hG : ∀ k, w.heap.size ≤ k → G k) (hlen : D.c.l.length ≤ 1000000) (cb : w.cell? ⟨b0, 0, none⟩ = some (.pointer (some ⟨pd, 0, none⟩))) (hb : HasT w b0 32) :
    Calls Tryz.prog 63 #[.agg #[.int .i64 fa, .int .i64 fk, .int .i64 ft], .pointer (some ⟨b0, 0, none⟩)] w (WorkIs fun x w' => x = 0 ∧ IsDisk w' G pd pp D.flushD ∧ IsPow w' G pp P ∧ FrG G diskTs w w') := by
  have hb0 : Below w.heap.size w (w.alloc (.cells #[.int .i64 fa, .int .i64 fk, .int .i64 ft] 64)) := (Below.refl _ _).alloc (Nat.le_refl _) _
  obtain ⟨pc, A, c, h⟩ := h.below hb0
  obtain ⟨_, _, _, _, _, k10, _, _, _, _, _, hl⟩ := h.cells
  have C := Lib.hid h.cache
  have H := Lib.hid h
  have HP := Lib.hid (hp.below hb0)
  have HG := Lib.hid hG
  have HB := Lib.hid hb0
  have HT := Lib.hid (show HasT (w.alloc (.cells #[.int .i64 fa, .int .i64 fk, .int .i64 ft] 64)) b0 32 from hb.keep (Fr.ofBelow hb0 (fun _ => False)) id)
  have cb0 := cell_later hb0 cb
  have hbl := hb.lt
  have hg := h.geo
  have Hgeo := Lib.hid (show (D.c.d.ops D.c.l).g = D.g by rw [Med.ops_g]; exact h.geo)
  clear h hp hG hb hb0 hg
  go_enter Tryz.func63, Tryz.ntmps63
  go_wp2_with (go_at_call 55; refine (gflush_any G pc D.c.d D.c.l _ C.out (fun k hk => HG.out k (Nat.le_trans HB.out.size hk)) hlen).mono ?_; rintro e w2 ⟨rfl, hC, hF⟩; obtain ⟨g1, g2⟩ := H.out.cached hF (x := ⟨D.c.d.ops D.c.l, []⟩) hC Hgeo.out; obtain ⟨_, _, _, k3, _, _, _, _, _, _, _, hl2⟩ := g1.cells; have f3 := g1.fz 3; have P2 := Lib.hid (HP.out.cached hF); have cb2 := (cap_cell HT.out cb0 g2 (by decide)).1; have G1 := Lib.hid g1; have G2 := Lib.hid g2; clear hC hF g1 g2)
  go_ret
  obtain ⟨g3, g4⟩ := G1.out.store (D' := D.flushD) (i := 3) (v := .int .i64 (inc D.s3)) rfl rfl rfl rfl
  exact ⟨0, rfl, rfl, ⟨pc, A, c, g3⟩, P2.out.setD G1.out.hasD 3 _, ((FrG.ofBelow HB.out).trans G2.out).trans g4⟩

set_option maxHeartbeats 4000000 in
set_option maxRecDepth 1000000 in
theorem dflush_any (key : Int) (w : World) (h : IsDisk w G pd pp D) (hp : IsPow w G pp P) (hG : ∀ k, w.heap.size ≤ k → G k) (hfl : D.fl.length ≤ 1000000) (hlen : D.c.l.length ≤ 1000000) :
    Calls Tryz.prog 28 #[.pointer (some ⟨pd, 0, none⟩), .int .u64 key] w (OutIs G pd pp (D.flushO P key) w) := by
  have hb0 : Below w.heap.size w (w.alloc (.cells #[.pointer (some ⟨pd, 0, none⟩)] 32)) := (Below.refl _ _).alloc (Nat.le_refl _) _
  have H := Lib.hid (h.below hb0)
  have HP := Lib.hid (hp.below hb0)
  have HB := Lib.hid hb0
  have HG := Lib.hid hG
  have T0 : HasT (w.alloc (.cells #[.pointer (some ⟨pd, 0, none⟩)] 32)) w.heap.size 32 := ⟨_, _, heap_alloc_new _ _⟩
  have c0 : (w.alloc (.cells #[.pointer (some ⟨pd, 0, none⟩)] 32)).cell? ⟨w.heap.size, 0, none⟩ = some (.pointer (some ⟨pd, 0, none⟩)) := by rw [World.cell?_alloc_mark]; rfl
  have HT := Lib.hid T0
  have Hc0 := Lib.hid c0
  clear h hp hG T0 c0 hb0
  by_cases hE : (D.begin_ P key).e = 0
  · have hO : D.flushO P key = ⟨0, ({ D with count := inc D.count } : Dsk).flushD, P.call⟩ := by unfold Dsk.flushO; rw [if_pos hE, Dsk.begin_is hE]
    rw [hO]
    obtain ⟨hs, hc, hk, h7, h6⟩ := Dsk.begin_zero hE
    subst hk
    clear hO hE
    obtain ⟨f, hf⟩ : ∃ f, D.flt = f := ⟨_, rfl⟩
    rw [hf] at h7 h6
    obtain ⟨fa, fk, ft⟩ := f
    have HS := Lib.hid hs
    have HC := Lib.hid hc
    have HF := Lib.hid hf
    have H7 := Lib.hid h7
    have H6 := Lib.hid h6
    clear hs hc hf h7 h6
    go_enter Tryz.func28, Tryz.ntmps28
    go_wp2_with (go_at_call 51; refine (dperform_flush w.heap.size (fun x w' => x = 0 ∧ IsDisk w' G pd pp ({ D with count := inc D.count } : Dsk).flushD ∧ IsPow w' G pp P.call ∧ FrG G diskTs w w') fa fk ft _ H.out HP.out hfl HS.out HC.out HF.out H7.out H6.out (fun w1 h1 p1 f1 => (fclosD_any w.heap.size fa fk ft w1 h1 p1 (fun k hk => HG.out k (Nat.le_trans HB.out.size (Nat.le_trans f1.size hk))) hlen (cap_cell HT.out Hc0.out f1 (by decide)).1 (cap_cell HT.out Hc0.out f1 (by decide)).2).mono (fun e w' ⟨x, e1, e2, e3, e4, e5⟩ => ⟨x, e1, e2, e3, e4, (((FrG.ofBelow HB.out).trans f1).trans e5)⟩))).mono ?_; rintro e w2 ⟨x, rfl, rfl, hD, hP, hF⟩; have HD := Lib.hid hD; have HP2 := Lib.hid hP; have HF2 := Lib.hid hF; clear hD hP hF)
    go_ret
    exact ⟨rfl, HD.out, HP2.out, HF2.out⟩
  · have hO : D.flushO P key = ⟨(D.begin_ P key).e, (D.begin_ P key).d, (D.begin_ P key).p⟩ := by unfold Dsk.flushO; rw [if_neg hE]
    rw [hO]
    have HE := Lib.hid hE
    clear hO hE
    go_enter Tryz.func28, Tryz.ntmps28
    go_wp2_with (go_at_call 51; refine (dperform_stop key _ _ H.out HP.out hfl HE.out).mono ?_; rintro e w2 ⟨rfl, hD, hP, hF⟩; have HD := Lib.hid hD; have HP2 := Lib.hid hP; have HF2 := Lib.hid hF; clear hD hP hF)
    go_ret
    exact ⟨rfl, HD.out, HP2.out, (FrG.ofBelow HB.out).trans HF2.out⟩
end
end Go.Proofs.YtmloiifnadaaoaaGreat
/- The walks of package disk: Erase, Read. -/
namespace Go.Proofs.YtmloiifnadaaoaaGreat
open Go.RowKit
set_option linter.unusedVariables false
set_option linter.unusedSimpArgs false

theorem heap_past2 {w : World} {b : Nat} {o x : Obj} (h : w.heap[b]? = some o) : (w.alloc x).heap[b]? = some o :=
  (((Below.refl w.heap.size w).alloc (Nat.le_refl _) x).block b (Array.getElem?_eq_some_iff.1 h).1).trans h
theorem heap_new2 (w : World) (x : Obj) (g : Nat) (hg : g = w.heap.size) : (w.alloc x).heap[g]? = some x := by subst hg; exact heap_alloc_new w x
section
variable {G : Nat → Prop} {pd pp : Nat} {D : Dsk} {P : Pow}
def HeldE (b0 pd b1 : Nat) (u0 u10 u1 : Value) (W : World) : Prop := W.cell? ⟨b0, 0, none⟩ = some u0 ∧ W.cell? ⟨pd, 10, none⟩ = some u10 ∧ W.cell? ⟨b1, 0, none⟩ = some u1 ∧ HasT W b0 32 ∧ HasT W pd 79 ∧ HasT W b1 3
theorem HeldE.keep {b0 b1 : Nat} {u0 u10 u1 : Value} {W W' : World} (h : HeldE b0 pd b1 u0 u10 u1 W) (hF : FrG G cacheTs W W') : HeldE b0 pd b1 u0 u10 u1 W' := by
  obtain ⟨h1, h2, h3, h4, h5, h6⟩ := h
  have hA : Avoid (TG G cacheTs W) W [32, 79, 3] := avoid_TG (by decide)
  have n4 := hA.not h4 (by simp)
  have n5 := hA.not h5 (by simp)
  have n6 := hA.not h6 (by simp)
  exact ⟨Fr.cell hF h1 n4, Fr.cell hF h2 n5, Fr.cell hF h3 n6, h4.keep hF n4, h5.keep hF n5, h6.keep hF n6⟩

set_option maxHeartbeats 4000000 in
set_option maxRecDepth 1000000 in
theorem eclosD_any (b0 b1 : Nat) (k : Int) (fa fk ft : Int) (w : World) (h : IsDisk w G pd pp D) (hp : IsPow w G pp P) (hG : ∀ k, w.heap.size ≤ k → G k) (hlen : D.c.l.length ≤ 1000000) (cb : w.cell? ⟨b0, 0, none⟩ = some (.pointer (some ⟨pd, 0, none⟩))) (hb : HasT w b0 32) (cb1 : w.cell? ⟨b1, 0, none⟩ = some (.int .i64 k)) (hb1 : HasT w b1 3) :
    Calls Tryz.prog 61 #[.agg #[.int .i64 fa, .int .i64 fk, .int .i64 ft], .pointer (some ⟨b0, 0, none⟩), .pointer (some ⟨b1, 0, none⟩)] w (WorkIs fun x w' => x = D.eraseE k ∧ IsDisk w' G pd pp (D.eraseD k) ∧ IsPow w' G pp P ∧ FrG G diskTs w w') := by
  have hb0 : Below w.heap.size w (w.alloc (.cells #[.int .i64 fa, .int .i64 fk, .int .i64 ft] 64)) := (Below.refl _ _).alloc (Nat.le_refl _) _
  have hb0d := hb0.drew
  obtain ⟨pc, A, c, h⟩ := h.below hb0d
  obtain ⟨_, _, _, _, _, k10, _, _, _, _, _, hl⟩ := h.cells
  have C := Lib.hid h.cache
  have H := Lib.hid h
  have HP := Lib.hid (hp.below hb0d)
  have HG := Lib.hid hG
  have HB := Lib.hid hb0d
  have T0 : HasT (w.alloc (.cells #[.int .i64 fa, .int .i64 fk, .int .i64 ft] 64)).drew b0 32 := hb.keep (Fr.ofBelow hb0d (fun _ => False)) id
  have T1 : HasT (w.alloc (.cells #[.int .i64 fa, .int .i64 fk, .int .i64 ft] 64)).drew b1 3 := hb1.keep (Fr.ofBelow hb0d (fun _ => False)) id
  have HH := Lib.hid (show HeldE b0 pd b1 _ _ _ (w.alloc (.cells #[.int .i64 fa, .int .i64 fk, .int .i64 ft] 64)).drew from ⟨cell_later hb0d cb, k10, cell_later hb0d cb1, T0, h.hasD, T1⟩)
  have hbl := hb.lt
  have hbl1 := hb1.lt
  have Hgeo := Lib.hid h.geo
  have hpl : pd < w.heap.size + 1 := by have := h.hasD.lt; simpa using this
  obtain ⟨E, hE⟩ : ∃ E, (D.c.d.ops D.c.l).opE ⟨true, k, []⟩ = E := ⟨_, rfl⟩
  have HE := Lib.hid hE
  have hDE : D.eraseE k = E := hE
  rw [hDE]
  have HDE := Lib.hid hDE
  clear h hp hG hb hb1 hb0 hb0d cb cb1 T0 T1 k10 hl hE hDE
  by_cases hE0 : E = 0
  · subst hE0
    have hDD : D.eraseD k = { D with s2 := inc D.s2, c := D.c.put ⟨true, k, []⟩ } := by unfold Dsk.eraseD; rw [if_pos HDE.out]
    rw [hDD]
    clear hDD
    go_enter Tryz.func61, Tryz.ntmps61
    go_wp2_with fail
    go_region_held3 (fun W_ => W_.cell? ⟨b0, 0, none⟩ = some (.pointer (some ⟨pd, 0, none⟩)) ∧ W_.cell? ⟨pd, 10, none⟩ = some (.pointer (some ⟨pc, 0, none⟩)) ∧ W_.cell? ⟨b1, 0, none⟩ = some (.int .i64 k) ∧ HasT W_ b0 32 ∧ HasT W_ pd 79 ∧ HasT W_ b1 3) (first | exact HH.out | assumption | exact HeldE.keep (by assumption) (by assumption)) (first | (go_at_call 62; refine (gerase_any G pc D.c.d D.c.l k [] _ C.out (fun k hk => HG.out k (Nat.le_trans HB.out.size hk)) hlen).mono ?_; rintro e w2 ⟨rfl, hC, hF⟩; rw [HE.out]; obtain ⟨g1, g2⟩ := H.out.cached hF (x := D.c.put ⟨true, k, []⟩) hC Hgeo.out; obtain ⟨_, _, k2, _, _, _, _, _, _, _, _, hl2⟩ := g1.cells; have f2 := g1.fz 2; have P2 := Lib.hid (HP.out.cached hF); have G1 := Lib.hid g1; have G2 := Lib.hid g2; have cb2 := (HeldE.keep HH.out hF).1; clear hC g1 g2))
    all_goals (try go_wp2)
    all_goals go_ret
    all_goals (obtain ⟨g3, g4⟩ := G1.out.store (D' := { D with s2 := inc D.s2, c := D.c.put ⟨true, k, []⟩ }) (i := 2) (v := .int .i64 (inc D.s2)) rfl rfl rfl rfl)
    all_goals exact ⟨0, rfl, rfl, ⟨pc, A, c, g3⟩, P2.out.setD G1.out.hasD 2 _, ((FrG.ofBelow HB.out).trans G2.out).trans g4⟩
  · have hDD : D.eraseD k = D := by unfold Dsk.eraseD; rw [if_neg (fun e => hE0 (HDE.out.symm.trans e))]
    rw [hDD]
    have X1 : (E == 0) = false := by simpa using hE0
    have HE0 := Lib.hid hE0
    clear hDD hE0
    go_enter Tryz.func61, Tryz.ntmps61
    go_wp2_with fail
    go_region_held3 (fun W_ => W_.cell? ⟨b0, 0, none⟩ = some (.pointer (some ⟨pd, 0, none⟩)) ∧ W_.cell? ⟨pd, 10, none⟩ = some (.pointer (some ⟨pc, 0, none⟩)) ∧ W_.cell? ⟨b1, 0, none⟩ = some (.int .i64 k) ∧ HasT W_ b0 32 ∧ HasT W_ pd 79 ∧ HasT W_ b1 3) (first | exact HH.out | assumption | exact HeldE.keep (by assumption) (by assumption)) (first | (go_at_call 62; refine (gerase_any G pc D.c.d D.c.l k [] _ C.out (fun k hk => HG.out k (Nat.le_trans HB.out.size hk)) hlen).mono ?_; rintro e w2 ⟨rfl, hC, hF⟩; rw [HE.out]; rw [push_bad (fun e => HE0.out (HE.out.symm.trans e))] at hC; obtain ⟨g1, g2⟩ := H.out.cached hF (x := D.c) hC Hgeo.out; have P2 := Lib.hid (HP.out.cached hF); have G1 := Lib.hid g1; have G2 := Lib.hid g2; clear hC g1 g2))
    all_goals (try go_wp2)
    all_goals go_ret
    all_goals exact ⟨E, rfl, rfl, ⟨pc, A, c, G1.out⟩, P2.out, (FrG.ofBelow HB.out).trans G2.out⟩

set_option maxHeartbeats 4000000 in
set_option maxRecDepth 1000000 in
theorem derase_any (key k : Int) (w : World) (h : IsDisk w G pd pp D) (hp : IsPow w G pp P) (hG : ∀ k, w.heap.size ≤ k → G k) (hfl : D.fl.length ≤ 1000000) (hlen : D.c.l.length ≤ 1000000) :
    Calls Tryz.prog 27 #[.pointer (some ⟨pd, 0, none⟩), .int .u64 key, .int .i64 k] w (OutIs G pd pp (D.eraseO P key k) w) := by
  have hb0 : Below w.heap.size w ((w.alloc (.cells #[.pointer (some ⟨pd, 0, none⟩)] 32)).alloc (.cells #[.int .i64 k] 3)) := below_alloc ((Below.refl _ _).alloc (Nat.le_refl _) _) _
  have H := Lib.hid (h.below hb0)
  have HP := Lib.hid (hp.below hb0)
  have HB := Lib.hid hb0
  have HG := Lib.hid hG
  have u0 : ((w.alloc (.cells #[.pointer (some ⟨pd, 0, none⟩)] 32)).alloc (.cells #[.int .i64 k] 3)).heap[w.heap.size]? = some (.cells #[.pointer (some ⟨pd, 0, none⟩)] 32 (0, 0)) := heap_past2 (heap_new2 _ _ _ rfl)
  have u1 : ((w.alloc (.cells #[.pointer (some ⟨pd, 0, none⟩)] 32)).alloc (.cells #[.int .i64 k] 3)).heap[w.heap.size + 1]? = some (.cells #[.int .i64 k] 3 (0, 0)) := heap_new2 _ _ _ (by simp)
  have HT := Lib.hid (show HasT ((w.alloc (.cells #[.pointer (some ⟨pd, 0, none⟩)] 32)).alloc (.cells #[.int .i64 k] 3)) w.heap.size 32 from ⟨_, _, u0⟩)
  have HT1 := Lib.hid (show HasT ((w.alloc (.cells #[.pointer (some ⟨pd, 0, none⟩)] 32)).alloc (.cells #[.int .i64 k] 3)) (w.heap.size + 1) 3 from ⟨_, _, u1⟩)
  have Hc0 := Lib.hid (show ((w.alloc (.cells #[.pointer (some ⟨pd, 0, none⟩)] 32)).alloc (.cells #[.int .i64 k] 3)).cell? ⟨w.heap.size, 0, none⟩ = some (.pointer (some ⟨pd, 0, none⟩)) by rw [cell_of_row _ _ _ _ _ _ u0]; rfl)
  have Hc1 := Lib.hid (show ((w.alloc (.cells #[.pointer (some ⟨pd, 0, none⟩)] 32)).alloc (.cells #[.int .i64 k] 3)).cell? ⟨w.heap.size + 1, 0, none⟩ = some (.int .i64 k) by rw [cell_of_row _ _ _ _ _ _ u1]; rfl)
  clear h hp hG u0 u1 hb0
  by_cases hE : (D.begin_ P key).e = 0
  · have hO : D.eraseO P key k = ⟨({ D with count := inc D.count } : Dsk).eraseE k, ({ D with count := inc D.count } : Dsk).eraseD k, P.call⟩ := by unfold Dsk.eraseO; rw [if_pos hE, Dsk.begin_is hE]
    rw [hO]
    obtain ⟨hs, hc, hk, h7, h6⟩ := Dsk.begin_zero hE
    subst hk
    clear hO hE
    obtain ⟨f, hf⟩ : ∃ f, D.flt = f := ⟨_, rfl⟩
    rw [hf] at h7 h6
    obtain ⟨fa, fk, ft⟩ := f
    have HS := Lib.hid hs
    have HC := Lib.hid hc
    have HF := Lib.hid hf
    have H7 := Lib.hid h7
    have H6 := Lib.hid h6
    clear hs hc hf h7 h6
    go_enter Tryz.func27, Tryz.ntmps27
    go_wp2_with (go_at_call 51; refine (dperform_erase w.heap.size (w.heap.size + 1) (fun x w' => x = ({ D with count := inc D.count } : Dsk).eraseE k ∧ IsDisk w' G pd pp (({ D with count := inc D.count } : Dsk).eraseD k) ∧ IsPow w' G pp P.call ∧ FrG G diskTs w w') fa fk ft _ H.out HP.out hfl HS.out HC.out HF.out H7.out H6.out (fun w1 h1 p1 f1 => (eclosD_any w.heap.size (w.heap.size + 1) k fa fk ft w1 h1 p1 (fun k hk => HG.out k (Nat.le_trans HB.out.size (Nat.le_trans f1.size hk))) hlen (cap_cell HT.out Hc0.out f1 (by decide)).1 (cap_cell HT.out Hc0.out f1 (by decide)).2 (cap_cell HT1.out Hc1.out f1 (by decide)).1 (cap_cell HT1.out Hc1.out f1 (by decide)).2).mono (fun e w' ⟨x, e1, e2, e3, e4, e5⟩ => ⟨x, e1, e2, e3, e4, (((FrG.ofBelow HB.out).trans f1).trans e5)⟩))).mono ?_; rintro e w2 ⟨x, rfl, rfl, hD, hP, hF⟩; have HD := Lib.hid hD; have HP2 := Lib.hid hP; have HF2 := Lib.hid hF; clear hD hP hF)
    go_ret
    exact ⟨rfl, HD.out, HP2.out, HF2.out⟩
  · have hO : D.eraseO P key k = ⟨(D.begin_ P key).e, (D.begin_ P key).d, (D.begin_ P key).p⟩ := by unfold Dsk.eraseO; rw [if_neg hE]
    rw [hO]
    have HE := Lib.hid hE
    clear hO hE
    go_enter Tryz.func27, Tryz.ntmps27
    go_wp2_with (go_at_call 51; refine (dperform_stop key _ _ H.out HP.out hfl HE.out).mono ?_; rintro e w2 ⟨rfl, hD, hP, hF⟩; have HD := Lib.hid hD; have HP2 := Lib.hid hP; have HF2 := Lib.hid hF; clear hD hP hF)
    go_ret
    exact ⟨rfl, HD.out, HP2.out, (FrG.ofBelow HB.out).trans HF2.out⟩
end
end Go.Proofs.YtmloiifnadaaoaaGreat
/- The walk of package disk: Restart. -/
namespace Go.Proofs.YtmloiifnadaaoaaGreat
open Go.RowKit
set_option linter.unusedVariables false
set_option linter.unusedSimpArgs false

def Dsk.restartO (D : Dsk) (P : Pow) (keep : Int) : Out := if D.dead then ⟨14, D, P⟩ else if P.off = false then ⟨8, D, P⟩ else ⟨0, { D with c := D.c.cut keep, seen := P.fails }, P⟩
section
variable {G : Nat → Prop} {pd pp : Nat} {D : Dsk} {P : Pow}
set_option maxHeartbeats 4000000 in
set_option maxRecDepth 1000000 in
theorem drestart_any (keep : Int) (w : World) (h : IsDisk w G pd pp D) (hp : IsPow w G pp P) (hG : ∀ k, w.heap.size ≤ k → G k) (hlen : D.c.l.length ≤ 1000000) :
    Calls Tryz.prog 14 #[.pointer (some ⟨pd, 0, none⟩), .int .i64 keep] w (OutIs G pd pp (D.restartO P keep) w) := by
  obtain ⟨pc, A, c, h⟩ := h
  obtain ⟨_, _, _, _, _, k10, _, k12, _, _, k15, hl⟩ := h.cells
  obtain ⟨x, p0, _, _, p3, _, hlp, _⟩ := hp.cells
  have H := Lib.hid h
  have HP := Lib.hid hp
  have HG := Lib.hid hG
  have C := Lib.hid h.cache
  have Hgeo := Lib.hid (show (D.c.cut keep).d.g = D.g by show (Med.ops _ _).g = _; rw [Med.ops_g]; exact h.geo)
  have T0 := Lib.hid h.hasD
  have TP := Lib.hid hp.hasP
  clear h hp hG
  cases hd : D.dead with
  | true =>
    have e : D.restartO P keep = ⟨14, D, P⟩ := by unfold Dsk.restartO; rw [if_pos hd]
    rw [e]
    rw [hd] at k15
    clear e hd
    go_enter Tryz.func14, Tryz.ntmps14
    go_wp2
    go_ret
    exact ⟨rfl, ⟨pc, A, c, H.out⟩, HP.out, FrG.refl _ _ _⟩
  | false =>
    cases ho : P.off with
    | false =>
      have e : D.restartO P keep = ⟨8, D, P⟩ := by unfold Dsk.restartO; rw [if_neg (by simp [hd]), if_pos ho]
      rw [e]
      rw [hd] at k15
      rw [ho] at p0
      clear e hd ho
      go_enter Tryz.func14, Tryz.ntmps14
      go_wp2
      go_ret
      exact ⟨rfl, ⟨pc, A, c, H.out⟩, HP.out, FrG.refl _ _ _⟩
    | true =>
      have e : D.restartO P keep = ⟨0, { D with c := D.c.cut keep, seen := P.fails }, P⟩ := by unfold Dsk.restartO; rw [if_neg (by simp [hd]), if_neg (by simp [ho])]
      rw [e]
      rw [hd] at k15
      rw [ho] at p0
      clear e hd ho
      go_enter Tryz.func14, Tryz.ntmps14
      go_wp2_with (go_at_call 39; refine (gcut_any G pc D.c.d D.c.l keep _ C.out HG.out hlen).mono ?_; rintro e w2 ⟨rfl, hC, hF⟩; obtain ⟨g1, g2⟩ := H.out.cached hF (x := D.c.cut keep) hC Hgeo.out; obtain ⟨_, _, _, _, _, _, _, k12', k13', _, _, hl2⟩ := g1.cells; have f13 := g1.fz 13; have hp2 := HP.out.cached hF; obtain ⟨x2, _, _, _, p3', _, hlp2, _⟩ := hp2.cells; have P2 := Lib.hid hp2; have G1 := Lib.hid g1; have G2 := Lib.hid g2; clear hC hF g1 g2 hp2)
      go_ret
      obtain ⟨g3, g4⟩ := G1.out.store (D' := { D with c := D.c.cut keep, seen := P.fails }) (i := 13) (v := .int .i64 P.fails) rfl rfl rfl rfl
      exact ⟨rfl, ⟨pc, A, c, g3⟩, P2.out.setD G1.out.hasD 13 _, G2.out.trans g4⟩
end
end Go.Proofs.YtmloiifnadaaoaaGreat
