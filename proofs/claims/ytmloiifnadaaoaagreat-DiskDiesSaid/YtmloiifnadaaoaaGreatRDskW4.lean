/- The walk of the reference's begin, whole. -/
import Derived.Test.YtmloiifnadaaoaaGreatRDskW3
namespace Go.Proofs.YtmloiifnadaaoaaGreat
open Go.RowKit
set_option linter.unusedVariables false
set_option linter.unusedSimpArgs false

/-- Under way in an operation: from w on only the disk's head and the power supply have turned. -/
structure RInv (w : World) (G : Nat → Prop) (pd pp pc : Nat) (A : Option Addr) (c : Nat) (D : Dsk) (P : Pow) (W : World) : Prop where
  fr : Fr (fun k => k = pp ∨ k = pd) w W
  head : W.heap[pd]? = some (.cells #[.int .i64 D.g.r, .int .i64 D.g.b, .int .i64 D.g.t, .int .i64 D.g.s, .int .i64 D.g.o, .pointer (some ⟨pc, 0, none⟩), .slice A D.fl.length c, .pointer (some ⟨pp, 0, none⟩),
    .int .u64 D.key, .bool D.dead, .int .i64 D.seen, .int .i64 D.count, .int .i64 D.s0, .int .i64 D.s1, .int .i64 D.s2, .int .i64 D.s3] 48 (0, 0))
  pow : IsRPow W G pp P
  lt : pd < w.heap.size ∧ pp < w.heap.size ∧ pd ≠ pp
namespace RInv
variable {w W W' : World} {G : Nat → Prop} {pd pp pc : Nat} {A : Option Addr} {c : Nat} {D : Dsk} {P P' : Pow}
theorem start (h : RDiskAt w G pd pp pc A c D) (hp : IsRPow w G pp P) : RInv w G pd pp pc A c D P w := ⟨Fr.refl _ _, h.head, hp, h.hasD.lt, hp.hasP.lt, h.hasD.ne hp.hasP (by decide)⟩
theorem below (h : RInv w G pd pp pc A c D P W) (hb : Below W.heap.size W W') : RInv w G pd pp pc A c D P W' := ⟨h.fr.call hb, (hb.block pd (Nat.lt_of_lt_of_le h.lt.1 h.fr.size)).trans h.head, h.pow.below hb, h.lt⟩
theorem alloc (h : RInv w G pd pp pc A c D P W) (o : Obj) : RInv w G pd pp pc A c D P (W.alloc o) := h.below ((Below.refl _ _).alloc (Nat.le_refl _) _)
theorem drew (h : RInv w G pd pp pc A c D P W) : RInv w G pd pp pc A c D P W.drew := h.below (Below.refl _ _).drew
theorem setNew (h : RInv w G pd pp pc A c D P W) {p : Addr} (hk : w.heap.size ≤ p.block) (v : Value) : RInv w G pd pp pc A c D P (W.setCell p v) := by
  have h1 := h.lt
  refine ⟨Fr.setCell h.fr (.inr hk) v, (Below.heap_setCell _ _ _ _ (by omega)).trans h.head, ?_, h1⟩
  obtain ⟨h2, x, h3, h4⟩ := h.pow
  exact ⟨h2, x, (Below.heap_setCell _ _ _ _ (by omega)).trans h3, h4⟩
theorem turn (h : RInv w G pd pp pc A c D P W) (hF : Fr (· = pp) W W') (hp : IsRPow W' G pp P') : RInv w G pd pp pc A c D P' W' :=
  ⟨h.fr.trans (Fr.mono hF (fun k _ e => .inl e)), (hF.block pd (Nat.lt_of_lt_of_le h.lt.1 h.fr.size) h.lt.2.2).trans h.head, hp, h.lt⟩
theorem setD (h : RInv w G pd pp pc A c D P W) (i : Nat) (v : Value) : Fr (fun k => k = pp ∨ k = pd) w (W.setCell ⟨pd, i, none⟩ v) ∧ IsRPow (W.setCell ⟨pd, i, none⟩ v) G pp P := by
  refine ⟨Fr.setCell h.fr (.inl (.inr rfl)) v, ?_⟩
  obtain ⟨h2, x, h3, h4⟩ := h.pow
  exact ⟨h2, x, (Below.heap_setCell _ _ _ _ (fun e => h.lt.2.2 e.symm)).trans h3, h4⟩
theorem count (h : RInv w G pd pp pc A c D P W) : RInv w G pd pp pc A c { D with count := inc D.count } P (W.setCell ⟨pd, 11, none⟩ (.int .i64 (inc D.count))) :=
  ⟨(h.setD 11 _).1, head_set h.head 11 _, (h.setD 11 _).2, h.lt⟩
theorem die (h : RInv w G pd pp pc A c { D with count := inc D.count } P W) : RInv w G pd pp pc A c { D with count := inc D.count, dead := true } P (W.setCell ⟨pd, 9, none⟩ (.bool true)) :=
  ⟨(h.setD 9 _).1, head_set h.head 9 _, (h.setD 9 _).2, h.lt⟩
/-- At the end: the disk is there. -/
theorem fin {E : Dsk} (h : RInv w G pd pp pc A c E P W) (h0 : RDiskAt w G pd pp pc A c D) (hp : HasT w pp 107) (hGp : G pp) (hc : E.c = D.c) (hfl : E.fl = D.fl) (hg : E.g = D.g) : IsRDisk W G pd pp E ∧ IsRPow W G pp P ∧ FrG G rdiskTs w W := by
  have a1 : Avoid (fun k => k = pp ∨ k = pd) w [90, 94, 123, 115, 5, 64] := by
    rintro k T (rfl | rfl) hT hk
    · exact (avoid_one hp (Us := [90, 94, 123, 115, 5, 64]) (by decide)) k T rfl hT hk
    · exact (avoid_one h0.hasD (Us := [90, 94, 123, 115, 5, 64]) (by decide)) k T rfl hT hk
  refine ⟨⟨pc, A, c, h.head, by rw [hc]; exact h0.cache.keepA h.fr (a1.sub (by simp [rcacheUs])), by rw [hfl]; exact h0.flts.keepA h.fr (a1.sub (by simp)), h0.own, by rw [hc, hg]; exact h0.geo⟩, h.pow, Fr.mono h.fr ?_⟩
  rintro k hk (rfl | rfl)
  · exact ⟨hGp, _, by simp [rdiskTs], hp⟩
  · exact ⟨h0.own, _, by simp [rdiskTs], h0.hasD⟩
theorem cells (h : RInv w G pd pp pc A c D P W) : W.cell? ⟨pd, 6, none⟩ = some (.slice A D.fl.length c) ∧ W.cell? ⟨pd, 7, none⟩ = some (.pointer (some ⟨pp, 0, none⟩)) ∧ W.cell? ⟨pd, 4, none⟩ = some (.int .i64 D.g.o) ∧ W.cell? ⟨pd, 8, none⟩ = some (.int .u64 D.key) ∧ W.cell? ⟨pd, 9, none⟩ = some (.bool D.dead) ∧ W.cell? ⟨pd, 11, none⟩ = some (.int .i64 D.count) ∧
    W.frozen? ⟨pd, 11, none⟩ = false ∧ W.frozen? ⟨pd, 9, none⟩ = false ∧ pd < W.heap.size := by
  have h1 := h.head
  refine ⟨?_, ?_, ?_, ?_, ?_, ?_, by simp [World.frozen?, h1], by simp [World.frozen?, h1], (Array.getElem?_eq_some_iff.1 h1).1⟩ <;> (rw [cell_of_row _ pd _ _ _ _ h1]; rfl)
end RInv

/-- The box of the result, still blank. -/
def Blank (n : Nat) (W : World) : Prop := W.heap[n]? = some (.cells #[.int .i64 0, .int .i64 0, .int .i64 0] 64 (0, 0))
namespace Blank
variable {n : Nat} {W W' : World}
theorem new (w : World) : Blank w.heap.size (w.alloc (.cells #[.int .i64 0, .int .i64 0, .int .i64 0] 64)) := heap_alloc_new _ _
theorem below (h : Blank n W) (hb : Below W.heap.size W W') : Blank n W' := (hb.block n (Array.getElem?_eq_some_iff.1 h).1).trans h
theorem fr {p : Nat} (h : Blank n W) (hF : Fr (· = p) W W') (hn : n ≠ p) : Blank n W' := (hF.block n (Array.getElem?_eq_some_iff.1 h).1 hn).trans h
theorem cells (h : Blank n W) : W.cell? ⟨n, 0, none⟩ = some (.int .i64 0) ∧ W.cell? ⟨n, 1, none⟩ = some (.int .i64 0) ∧ W.cell? ⟨n, 2, none⟩ = some (.int .i64 0) ∧ W.frozen? ⟨n, 0, none⟩ = false ∧ W.frozen? ⟨n, 1, none⟩ = false ∧ W.frozen? ⟨n, 2, none⟩ = false ∧ n < W.heap.size := by
  have h1 : W.heap[n]? = some (.cells #[.int .i64 0, .int .i64 0, .int .i64 0] 64 (0, 0)) := h
  refine ⟨?_, ?_, ?_, by simp [World.frozen?, h1], by simp [World.frozen?, h1], by simp [World.frozen?, h1], (Array.getElem?_eq_some_iff.1 h1).1⟩ <;> (rw [cell_of_row _ n _ _ _ _ h1]; rfl)
end Blank

section
variable {G : Nat → Prop} {pd pp : Nat} {D : Dsk} {P : Pow}
def RHeldP (w1 : World) (pd : Nat) (u11 u6 : Value) (W : World) : Prop := W.cell? ⟨pd, 11, none⟩ = some u11 ∧ W.cell? ⟨pd, 6, none⟩ = some u6 ∧ Below w1.heap.size w1 W
theorem RHeldP.keep {w1 : World} {u4 u11 : Value} {W W' : World} (h : RHeldP w1 pd u4 u11 W) (hb : Below W.heap.size W W') : RHeldP w1 pd u4 u11 W' := ⟨cell_later hb h.1, cell_later hb h.2.1, below_of hb h.2.2⟩
theorem RHeldP.alloc {w1 : World} {u4 u11 : Value} {W : World} (h : RHeldP w1 pd u4 u11 W) (o : Obj) : RHeldP w1 pd u4 u11 (W.alloc o) := h.keep ((Below.refl _ _).alloc (Nat.le_refl _) _)
theorem RHeldP.set {w1 : World} {u4 u11 : Value} {W : World} (h : RHeldP w1 pd u4 u11 W) (hpd : pd < w1.heap.size) {k : Nat} (hk : w1.heap.size ≤ k) (i : Nat) (v : Value) : RHeldP w1 pd u4 u11 (W.setCell ⟨k, i, none⟩ v) := by
  have hne : ∀ j, (⟨k, i, none⟩ : Addr) ≠ ⟨pd, j, none⟩ := fun j e => by injection e with e; omega
  exact ⟨by rw [World.cell?_setCell_other _ _ _ _ (hne 11)]; exact h.1, by rw [World.cell?_setCell_other _ _ _ _ (hne 6)]; exact h.2.1, below_set h.2.2 hk _⟩

set_option maxHeartbeats 8000000 in
set_option maxRecDepth 1000000 in
theorem rbegin_power (key : Int) (w : World) (h : IsRDisk w G pd pp D) (hp : IsRPow w G pp P) (hs : D.state P = 0) (hc : P.call.off = true) :
    Calls Tryz.prog 64 #[.pointer (some ⟨pd, 0, none⟩), .int .u64 key] w (RBegIs G pd pp (D.begin_ P key) w) := by
  rw [Dsk.begin_power hs hc]
  obtain ⟨pc, A, c, h0⟩ := h
  have hr : D.ready P = true := by
    cases hr : D.ready P with
    | true => rfl
    | false => rw [Dsk.state_ready (Dsk.state_zero hs).1, hr] at hs; cases hs
  have Hr := Lib.hid hr
  have HC := Lib.hid hc
  have hoff := (Dsk.state_zero hs).2.1
  have hdead := (Dsk.state_zero hs).1
  have I0 := RInv.start h0 hp
  have H0 := Lib.hid h0
  have HT := Lib.hid hp.hasP
  have HG := Lib.hid hp.1
  have I1 := Lib.hid (I0.alloc (.cells #[.int .i64 0, .int .i64 0, .int .i64 0] 64))
  have DD := Lib.hid (show IsRDisk _ G pd pp D from (show IsRDisk w G pd pp D from ⟨pc, A, c, h0⟩).below ((Below.refl _ _).alloc (Nat.le_refl _) (.cells #[.int .i64 0, .int .i64 0, .int .i64 0] 64)))
  have B1 := Lib.hid (Blank.new w)
  obtain ⟨k6, k7, _, k8, k9, k11, _, _, hl⟩ := I0.cells
  rw [hdead] at k9
  have hne : ¬ pd = w.heap.size := by omega
  have hpp : w.heap.size ≠ pp := by have := I0.lt.2.1; omega
  clear h0 hp hs hc hr I0 hdead
  go_enter Tryz.func64, Tryz.ntmps64
  go_wp2_with (first | (go_at_call 69; refine (rready_any _ DD.out I1.out.pow).mono ?_; rintro e w1 ⟨rfl, hb⟩; rw [Hr.out]; have I2 := Lib.hid (I1.out.below hb); have B2 := Lib.hid (B1.out.below hb); obtain ⟨_, y7, _, _, _, _, _, _, hl1⟩ := I2.out.cells; clear hb) | (go_at_call 89; refine (rcall_any _ I2.out.pow hoff).mono ?_; rintro e w2 ⟨rfl, hP2, hF2⟩; rw [HC.out]; have I3 := Lib.hid (I2.out.turn hF2 hP2); obtain ⟨z0, z1, z2, y0, y1, y2, hz⟩ := (B2.out.fr hF2 hpp).cells; clear hP2 hF2))
  refine bodyPost_ret (v := .tuple #[.agg #[.int .i64 0, .int .i64 0, .int .i64 0], .int .i64 13]) (by simp [results, Tryz.results64, go_sem, z0, z1, z2, y0, y1, y2, hz]) rfl ?_
  refine ⟨rfl, RInv.fin (D := D) ?_ H0.out HT.out HG.out rfl rfl rfl⟩
  repeat (first | exact I3.out | refine RInv.setNew ?_ (Nat.le_refl _) _ | refine RInv.alloc ?_ _ | refine RInv.drew ?_)

set_option maxHeartbeats 8000000 in
set_option maxRecDepth 1000000 in
theorem rbegin_key (key : Int) (w : World) (h : IsRDisk w G pd pp D) (hp : IsRPow w G pp P) (hs : D.state P = 0) (hc : P.call.off = false) (hk : key ≠ D.key) :
    Calls Tryz.prog 64 #[.pointer (some ⟨pd, 0, none⟩), .int .u64 key] w (RBegIs G pd pp (D.begin_ P key) w) := by
  rw [Dsk.begin_key hs hc hk]
  have hkb : (key != D.key) = true := by simpa using hk
  obtain ⟨pc, A, c, h0⟩ := h
  have hr : D.ready P = true := by
    cases hr : D.ready P with
    | true => rfl
    | false => rw [Dsk.state_ready (Dsk.state_zero hs).1, hr] at hs; cases hs
  have Hr := Lib.hid hr
  have HC := Lib.hid hc
  have hoff := (Dsk.state_zero hs).2.1
  have hdead := (Dsk.state_zero hs).1
  have I0 := RInv.start h0 hp
  have H0 := Lib.hid h0
  have HT := Lib.hid hp.hasP
  have HG := Lib.hid hp.1
  have I1 := Lib.hid (I0.alloc (.cells #[.int .i64 0, .int .i64 0, .int .i64 0] 64))
  have DD := Lib.hid (show IsRDisk _ G pd pp D from (show IsRDisk w G pd pp D from ⟨pc, A, c, h0⟩).below ((Below.refl _ _).alloc (Nat.le_refl _) (.cells #[.int .i64 0, .int .i64 0, .int .i64 0] 64)))
  have B1 := Lib.hid (Blank.new w)
  obtain ⟨k6, k7, _, k8, k9, k11, _, _, hl⟩ := I0.cells
  rw [hdead] at k9
  have hne : ¬ pd = w.heap.size := by omega
  have hpp : w.heap.size ≠ pp := by have := I0.lt.2.1; omega
  clear h0 hp hs hc hr I0 hdead hk
  go_enter Tryz.func64, Tryz.ntmps64
  go_wp2_with (first | (go_at_call 69; refine (rready_any _ DD.out I1.out.pow).mono ?_; rintro e w1 ⟨rfl, hb⟩; rw [Hr.out]; have I2 := Lib.hid (I1.out.below hb); have B2 := Lib.hid (B1.out.below hb); obtain ⟨_, y7, _, _, _, _, _, _, hl1⟩ := I2.out.cells; clear hb) | (go_at_call 89; refine (rcall_any _ I2.out.pow hoff).mono ?_; rintro e w2 ⟨rfl, hP2, hF2⟩; rw [HC.out]; have i3 := I2.out.turn hF2 hP2; have I3 := Lib.hid i3; have B3 := Lib.hid (B2.out.fr hF2 hpp); obtain ⟨j6, _, _, j8, _, j11, _, _, hl2⟩ := i3.cells; have ht2 := i3.fr; obtain ⟨z0, z1, z2, y0, y1, y2, hz⟩ := B3.out.cells; clear hP2 hF2 i3 ht2))
  refine bodyPost_ret (v := .tuple #[.agg #[.int .i64 0, .int .i64 0, .int .i64 0], .int .i64 17]) (by simp [results, Tryz.results64, go_sem, z0, z1, z2, y0, y1, y2, hz]) rfl ?_
  refine ⟨rfl, RInv.fin (D := D) ?_ H0.out HT.out HG.out rfl rfl rfl⟩
  repeat (first | exact I3.out | refine RInv.setNew ?_ (Nat.le_refl _) _ | refine RInv.alloc ?_ _ | refine RInv.drew ?_)

/-- What is known behind the fault that was looked up. -/
theorem rbegin_facts {w w2 w3 : World} {pc : Nat} {A : Option Addr} {c : Nat} (I3 : RInv w G pd pp pc A c D P w2) (B3 : Blank w.heap.size w2) (hb : Below w2.heap.size w2 w3) :
    RInv w G pd pp pc A c D P w3 ∧ w3.cell? ⟨pd, 11, none⟩ = some (.int .i64 D.count) ∧ w3.frozen? ⟨pd, 11, none⟩ = false ∧ w3.frozen? ⟨pd, 9, none⟩ = false ∧ w3.cell? ⟨pd, 9, none⟩ = some (.bool D.dead) ∧ pd < w3.heap.size ∧ w.heap.size < w3.heap.size ∧ w2.heap.size ≤ w3.heap.size ∧
    w3.cell? ⟨w.heap.size, 0, none⟩ = some (.int .i64 0) ∧ w3.cell? ⟨w.heap.size, 1, none⟩ = some (.int .i64 0) ∧ w3.cell? ⟨w.heap.size, 2, none⟩ = some (.int .i64 0) ∧ w3.frozen? ⟨w.heap.size, 0, none⟩ = false ∧ w3.frozen? ⟨w.heap.size, 1, none⟩ = false ∧ w3.frozen? ⟨w.heap.size, 2, none⟩ = false ∧ w.heap.size < w2.heap.size ∧ pd < w.heap.size := by
  have i := I3.below hb
  obtain ⟨_, _, _, _, x9, x11, f11, f9, hl3⟩ := i.cells
  obtain ⟨z0, z1, z2, y0, y1, y2, hz⟩ := (B3.below hb).cells
  obtain ⟨_, _, _, _, _, _, hz2⟩ := B3.cells
  exact ⟨i, x11, f11, f9, x9, hl3, hz, hb.size, z0, z1, z2, y0, y1, y2, hz2, i.lt.1⟩

theorem avoid_pp {w : World} (hp : HasT w pp 107) (hd : HasT w pd 48) : Avoid (fun k => k = pp ∨ k = pd) w [64] := by
  rintro k T (rfl | rfl) hT hk
  · exact (avoid_one hp (Us := [64]) (by decide)) k T rfl hT hk
  · exact (avoid_one hd (Us := [64]) (by decide)) k T rfl hT hk
end
end Go.Proofs.YtmloiifnadaaoaaGreat
