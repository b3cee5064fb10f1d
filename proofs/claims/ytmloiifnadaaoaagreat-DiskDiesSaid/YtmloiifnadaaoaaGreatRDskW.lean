/- The walks of the reference of package disk: NewPower, Arm, On, call, Ready, Acquire, Restart, has. -/
import Derived.Test.YtmloiifnadaaoaaGreatRDskH
import Derived.Test.YtmloiifnadaaoaaGreatDskC
namespace Go.Proofs.YtmloiifnadaaoaaGreat
open Go.RowKit
set_option linter.unusedVariables false
set_option linter.unusedSimpArgs false

def ROutIs (G : Nat → Prop) (pd pp : Nat) (o : Out) (w : World) (e : Ending) (w' : World) : Prop :=
  e = .returned (.int .i64 o.e) ∧ IsRDisk w' G pd pp o.d ∧ IsRPow w' G pp o.p ∧ FrG G rdiskTs w w'
theorem rnewPower_any (w : World) : Calls Tryz.prog 25 #[] w fun e w' => ∃ pp, e = .returned (.pointer (some ⟨pp, 0, none⟩)) ∧ w.heap.size ≤ pp ∧ IsRPow w' (fun k => w.heap.size ≤ k) pp Pow.new ∧ Below w.heap.size w w' := by
  go_enter Tryz.func25, Tryz.ntmps25
  go_wp2
  go_ret
  exact ⟨_, rfl, Nat.le_refl _, ⟨Nat.le_refl _, 0, heap_alloc_new _ _, fun _ => rfl⟩, (by repeat (first | (with_reducible exact Below.refl _ _) | (with_reducible refine Below.drew ?_) | (with_reducible refine below_drw ?_ _) | (with_reducible refine below_alloc ?_ _) | (with_reducible refine below_set ?_ (by simp <;> omega) _) | (refine below_of (by assumption) ?_)))⟩
section
variable {G : Nat → Prop} {pd pp : Nat} {D : Dsk} {P : Pow}
set_option maxHeartbeats 1000000 in
theorem ron_any (w : World) (h : IsRPow w G pp P) : Calls Tryz.prog 37 #[.pointer (some ⟨pp, 0, none⟩)] w fun e w' => e = .returned (.tuple #[]) ∧ IsRPow w' G pp P.on ∧ Fr (· = pp) w w' := by
  obtain ⟨x, k0, _, _, _, _, hl, f0, _⟩ := h.cells
  have H := Lib.hid h
  clear h
  go_enter Tryz.func37, Tryz.ntmps37
  go_wp2
  go_end0
  obtain ⟨h0, y, h1, h2⟩ := H.out
  exact ⟨rfl, ⟨h0, y, head_set h1 0 _, h2⟩, fr_one _ _ _ _⟩
set_option maxHeartbeats 2000000 in
theorem rarm_any (n : Int) (w : World) (h : IsRPow w G pp P) : Calls Tryz.prog 36 #[.pointer (some ⟨pp, 0, none⟩), .int .i64 n] w fun e w' => e = .returned (.tuple #[]) ∧ IsRPow w' G pp (P.arm n) ∧ Fr (· = pp) w w' := by
  obtain ⟨x, k0, k1, k2, _, _, hl, _, f1, f2, _⟩ := h.cells
  have H := Lib.hid h
  clear h
  obtain ⟨off, armed, left, fails⟩ := P
  cases off with
  | true =>
    go_enter Tryz.func36, Tryz.ntmps36
    go_wp2
    go_end0
    exact ⟨rfl, H.out, Fr.refl _ _⟩
  | false =>
    go_enter Tryz.func36, Tryz.ntmps36
    go_wp2
    go_end0
    obtain ⟨h0, y, h1, h2⟩ := H.out
    have F := (fr_one w pp 1 (.bool (decide (0 ≤ n)))).trans (fr_one _ pp 2 (.int .i64 n))
    exact ⟨rfl, ⟨h0, n, head_set (head_set h1 1 _) 2 _, fun _ => rfl⟩, F⟩
set_option maxHeartbeats 4000000 in
theorem rcall_any (w : World) (hp : IsRPow w G pp P) (hoff : P.off = false) : Calls Tryz.prog 89 #[.pointer (some ⟨pp, 0, none⟩)] w fun e w' => e = .returned (.bool !P.call.off) ∧ IsRPow w' G pp P.call ∧ Fr (· = pp) w w' := by
  obtain ⟨x, p0, p1, p2, p3, hx, hlp, f0, f1, f2, f3⟩ := hp.cells
  rw [hoff] at p0
  have hG := hp.1
  obtain ⟨off, armed, left, fails⟩ := P
  simp only at hoff hx p1 p3
  subst hoff
  cases armed with
  | false =>
    have e1 : (Pow.mk false false left fails).call = ⟨false, false, left, fails⟩ := rfl
    rw [e1]
    have HP := Lib.hid hp
    clear hp hx e1
    go_enter Tryz.func89, Tryz.ntmps89
    go_wp2
    go_ret
    exact ⟨rfl, HP.out, Fr.refl _ _⟩
  | true =>
    have hx := hx rfl
    subst hx
    by_cases h0 : x = 0
    · subst h0
      have e1 : (Pow.mk false true 0 fails).call = ⟨true, false, 0, inc fails⟩ := rfl
      rw [e1]
      have HP := Lib.hid hp
      clear hp e1
      go_enter Tryz.func89, Tryz.ntmps89
      go_wp2
      go_ret
      obtain ⟨h0, y, h1, h2⟩ := HP.out
      have F := ((fr_one w pp 0 (.bool true)).trans (fr_one _ pp 1 (.bool false))).trans (fr_one _ pp 3 (.int .i64 (inc fails)))
      exact ⟨rfl, ⟨h0, _, head_set (head_set (head_set h1 0 _) 1 _) 3 _, fun h => by cases h⟩, F⟩
    · have hb : (x == 0) = false := by simpa using h0
      have e1 : (Pow.mk false true x fails).call = ⟨false, true, dec x, fails⟩ := by unfold Pow.call; simp [h0]
      rw [e1]
      have HP := Lib.hid hp
      clear hp e1 h0
      go_enter Tryz.func89, Tryz.ntmps89
      go_wp2
      go_ret
      obtain ⟨h0, y, h1, h2⟩ := HP.out
      exact ⟨rfl, ⟨h0, _, head_set h1 2 _, fun _ => rfl⟩, fr_one _ _ _ _⟩

/-- Is a disk ready? -/
def Dsk.ready (D : Dsk) (P : Pow) : Bool := !P.off && decide (D.seen = P.fails)
set_option maxHeartbeats 2000000 in
theorem rready_any (w : World) (h : IsRDisk w G pd pp D) (hp : IsRPow w G pp P) : Calls Tryz.prog 69 #[.pointer (some ⟨pd, 0, none⟩)] w fun e w' => e = .returned (.bool (D.ready P)) ∧ Below w.heap.size w w' := by
  obtain ⟨pc, A, c, h⟩ := h
  obtain ⟨_, _, k7, _, _, k10, _, _, _, _, _, hl⟩ := h.cells
  obtain ⟨x, p0, _, _, p3, _, hlp, _⟩ := hp.cells
  clear h hp
  cases ho : P.off with
  | true =>
    rw [ho] at p0
    have e : D.ready P = false := by unfold Dsk.ready; rw [ho]; rfl
    rw [e]
    clear ho e
    go_enter Tryz.func69, Tryz.ntmps69
    go_wp2
    go_region
    all_goals (try go_wp2)
    all_goals go_ret
    all_goals exact ⟨rfl, (by repeat (first | (with_reducible exact Below.refl _ _) | (with_reducible refine Below.drew ?_) | (with_reducible refine below_drw ?_ _) | (with_reducible refine below_alloc ?_ _) | (with_reducible refine below_set ?_ (by simp <;> omega) _) | (refine below_of (by assumption) ?_)))⟩
  | false =>
    rw [ho] at p0
    by_cases hs : D.seen = P.fails
    · have e : D.ready P = true := by unfold Dsk.ready; rw [ho]; simp [hs]
      rw [e]
      rw [hs] at k10
      clear ho hs e
      go_enter Tryz.func69, Tryz.ntmps69
      go_wp2
      go_region
      all_goals (try go_wp2)
      all_goals go_ret
      all_goals exact ⟨rfl, (by repeat (first | (with_reducible exact Below.refl _ _) | (with_reducible refine Below.drew ?_) | (with_reducible refine below_drw ?_ _) | (with_reducible refine below_alloc ?_ _) | (with_reducible refine below_set ?_ (by simp <;> omega) _) | (refine below_of (by assumption) ?_)))⟩
    · have e : D.ready P = false := by unfold Dsk.ready; rw [ho]; simp [hs]
      rw [e]
      have hb : (D.seen == P.fails) = false := by simpa using hs
      clear ho hs e
      go_enter Tryz.func69, Tryz.ntmps69
      go_wp2
      go_region
      all_goals (try go_wp2)
      all_goals go_ret
      all_goals exact ⟨rfl, (by repeat (first | (with_reducible exact Below.refl _ _) | (with_reducible refine Below.drew ?_) | (with_reducible refine below_drw ?_ _) | (with_reducible refine below_alloc ?_ _) | (with_reducible refine below_set ?_ (by simp <;> omega) _) | (refine below_of (by assumption) ?_)))⟩
theorem Dsk.state_ready (hd : D.dead = false) : D.state P = if D.ready P then 0 else 13 := by
  unfold Dsk.ready
  cases ho : P.off
  · by_cases hs : D.seen = P.fails
    · rw [Dsk.state_ok hd ho hs]; simp [hs]
    · rw [Dsk.state_seen hd hs]; simp [hs]
  · rw [Dsk.state_off hd ho]; simp
set_option maxHeartbeats 2000000 in
theorem racquire_any (key : Int) (w : World) (h : IsRDisk w G pd pp D) (hp : IsRPow w G pp P) : Calls Tryz.prog 34 #[.pointer (some ⟨pd, 0, none⟩), .int .u64 key] w fun e w' =>
    e = .returned (.int .i64 (D.state P)) ∧ IsRDisk w' G pd pp (if D.state P = 0 then { D with key := key } else D) ∧ FrG G rdiskTs w w' := by
  obtain ⟨pc, A, c, h0⟩ := h
  obtain ⟨_, _, _, _, k9, _⟩ := h0.cells
  have H := Lib.hid (show IsRDisk w G pd pp D from ⟨pc, A, c, h0⟩)
  have HP := Lib.hid hp
  clear h0 hp
  cases hd : D.dead with
  | true =>
    rw [Dsk.state_dead hd, if_neg (by decide)]
    rw [hd] at k9
    clear hd
    go_enter Tryz.func34, Tryz.ntmps34
    go_wp2
    go_ret
    exact ⟨rfl, H.out, FrG.refl _ _ _⟩
  | false =>
    rw [Dsk.state_ready hd]
    rw [hd] at k9
    have HD := Lib.hid hd
    clear hd
    cases hr : D.ready P with
    | false =>
      have Hr := Lib.hid hr
      clear hr
      simp only [Bool.false_eq_true, if_false]
      rw [if_neg (by decide)]
      go_enter Tryz.func34, Tryz.ntmps34
      go_wp2_with (go_at_call 69; refine (rready_any _ H.out HP.out).mono ?_; rintro e w1 ⟨rfl, hb⟩; rw [Hr.out]; have B1 := Lib.hid hb; clear hb)
      go_ret
      exact ⟨rfl, H.out.below B1.out, FrG.ofBelow B1.out⟩
    | true =>
      have Hr := Lib.hid hr
      clear hr
      simp only [if_true]
      go_enter Tryz.func34, Tryz.ntmps34
      go_wp2_with (go_at_call 69; refine (rready_any _ H.out HP.out).mono ?_; rintro e w1 ⟨rfl, hb⟩; rw [Hr.out]; obtain ⟨pc, A, c, h1⟩ := H.out.below hb; obtain ⟨_, _, _, k8, _, _, _, _, _, _, _, hl⟩ := h1.cells; have f8 := h1.fz 8; have H1 := Lib.hid h1; have B1 := Lib.hid hb; clear h1 hb)
      go_ret
      obtain ⟨g1, g2⟩ := H1.out.store (D' := { D with key := key }) (i := 8) (v := .int .u64 key) rfl rfl rfl rfl
      exact ⟨rfl, ⟨pc, A, c, by have g9 := g1; rw [HD.out] at g9; exact g9⟩, (FrG.ofBelow B1.out).trans g2⟩
end
end Go.Proofs.YtmloiifnadaaoaaGreat
/- The walks of the reference of package disk: Restart, has. -/
namespace Go.Proofs.YtmloiifnadaaoaaGreat
open Go.RowKit
set_option linter.unusedVariables false
set_option linter.unusedSimpArgs false

section
variable {G : Nat → Prop} {pd pp : Nat} {D : Dsk} {P : Pow}
/-- The disk behind an operation of its cache. -/
theorem RDiskAt.cached {w w2 : World} {pc : Nat} {A : Option Addr} {c : Nat} (h : RDiskAt w G pd pp pc A c D) (hF : FrG G rcacheTs w w2) {x : Cch} (hC : IsRGache w2 G pc x.d x.l) (hg : x.d.g = D.g) :
    RDiskAt w2 G pd pp pc A c { D with c := x } ∧ FrG G rdiskTs w w2 := by
  have hA : Avoid (TG G rcacheTs w) w [48, 64] := avoid_TG (by decide)
  exact ⟨⟨(Fr.block hF pd h.hasD.lt (hA.not h.hasD (by simp))).trans h.head, hC, h.flts.keepA hF (hA.sub (by simp)), h.own, hg⟩, hF.mono (fun _ _ h => h) (by decide)⟩
theorem IsRPow.cached {w w2 : World} (h : IsRPow w G pp P) (hF : FrG G rcacheTs w w2) : IsRPow w2 G pp P := h.keepA hF (avoid_TG (by decide))

set_option maxHeartbeats 4000000 in
set_option maxRecDepth 1000000 in
theorem rrestart_any (keep : Int) (w : World) (h : IsRDisk w G pd pp D) (hp : IsRPow w G pp P) (hlen : D.c.l.length ≤ 1000000) :
    Calls Tryz.prog 35 #[.pointer (some ⟨pd, 0, none⟩), .int .i64 keep] w (ROutIs G pd pp (D.restartO P keep) w) := by
  obtain ⟨pc, A, c, h⟩ := h
  obtain ⟨k5, _, k7, _, k9, _, _, _, _, _, _, hl⟩ := h.cells
  obtain ⟨x, p0, _, _, p3, _, hlp, _⟩ := hp.cells
  have H := Lib.hid h
  have HP := Lib.hid hp
  have C := Lib.hid h.cache
  have Hgeo := Lib.hid (show (D.c.cut keep).d.g = D.g by show (Med.ops _ _).g = _; rw [Med.ops_g]; exact h.geo)
  clear h hp
  cases hd : D.dead with
  | true =>
    have e : D.restartO P keep = ⟨14, D, P⟩ := by unfold Dsk.restartO; rw [if_pos hd]
    rw [e]
    rw [hd] at k9
    clear e hd
    go_enter Tryz.func35, Tryz.ntmps35
    go_wp2
    go_ret
    exact ⟨rfl, ⟨pc, A, c, H.out⟩, HP.out, FrG.refl _ _ _⟩
  | false =>
    cases ho : P.off with
    | false =>
      have e : D.restartO P keep = ⟨8, D, P⟩ := by unfold Dsk.restartO; rw [if_neg (by simp [hd]), if_pos ho]
      rw [e]
      rw [hd] at k9
      rw [ho] at p0
      clear e hd ho
      go_enter Tryz.func35, Tryz.ntmps35
      go_wp2
      go_ret
      exact ⟨rfl, ⟨pc, A, c, H.out⟩, HP.out, FrG.refl _ _ _⟩
    | true =>
      have e : D.restartO P keep = ⟨0, { D with c := D.c.cut keep, seen := P.fails }, P⟩ := by unfold Dsk.restartO; rw [if_neg (by simp [hd]), if_neg (by simp [ho])]
      rw [e]
      rw [hd] at k9
      rw [ho] at p0
      clear e hd ho
      go_enter Tryz.func35, Tryz.ntmps35
      go_wp2_with (go_at_call 70; refine (grcut_any G pc D.c.d D.c.l keep _ C.out hlen).mono ?_; rintro e w2 ⟨rfl, hC, hF⟩; obtain ⟨g1, g2⟩ := H.out.cached hF (x := D.c.cut keep) hC Hgeo.out; obtain ⟨_, _, k7', _, _, k10', _, _, _, _, _, hl2⟩ := g1.cells; have f10 := g1.fz 10; have hp2 := HP.out.cached hF; obtain ⟨x2, _, _, _, p3', _, hlp2, _⟩ := hp2.cells; have P2 := Lib.hid hp2; have G1 := Lib.hid g1; have G2 := Lib.hid g2; clear hC hF g1 g2 hp2)
      go_ret
      obtain ⟨g3, g4⟩ := G1.out.store (D' := { D with c := D.c.cut keep, seen := P.fails }) (i := 10) (v := .int .i64 P.fails) rfl rfl rfl rfl
      exact ⟨rfl, ⟨pc, A, c, g3⟩, IsRPow.setD P2.out G1.out.hasD 10 _, G2.out.trans g4⟩

set_option maxHeartbeats 2000000 in
theorem rdhas_any (a : Int) (w : World) (h : IsRDisk w G pd pp D) : Calls Tryz.prog 65 #[.pointer (some ⟨pd, 0, none⟩), .int .i64 a] w fun e w' => e = .returned (.bool (D.has a)) ∧ Below w.heap.size w w' := by
  obtain ⟨pc, A, c, h⟩ := h
  obtain ⟨g0, g1, g2, g3, g4⟩ := h.geoCells
  have hl := h.hasD.lt
  clear h
  by_cases ha : a < 0
  · have e1 : D.has a = false := by unfold Dsk.has; simp; omega
    rw [e1]
    clear e1
    go_enter Tryz.func65, Tryz.ntmps65
    go_wp2
    go_ret
    exact ⟨rfl, (by repeat (first | (with_reducible exact Below.refl _ _) | (with_reducible refine Below.drew ?_) | (with_reducible refine below_drw ?_ _) | (with_reducible refine below_alloc ?_ _) | (with_reducible refine below_set ?_ (by simp <;> omega) _) | (refine below_of (by assumption) ?_)))⟩
  · have e1 : D.has a = decide (a < (Geo.mk D.g.r D.g.b D.g.t D.g.s D.g.o).size) := by unfold Dsk.has; simp; intro _; omega
    rw [e1]
    have ha0 : 0 ≤ a := by omega
    clear e1 ha
    go_enter Tryz.func65, Tryz.ntmps65
    go_wp2_with (go_at_call 23; refine (rsize_any _ _ _ _ _ _).mono ?_; rintro e w' ⟨rfl, hb⟩; (first | ((first | have hB1 := below_of hb hB | have hB1 := below_of hb (Below.drew hB) | have hB1 := below_of hb (below_drw hB _)); clear hB hb hc hf hz; have hB := hB1; clear hB1; obtain ⟨hc, hf, hz⟩ := bcell hB) | ((first | have hB1 := below_of hb (below_alloc hB _) | have hB1 := below_of hb (below_alloc (below_alloc hB _) _) | have hB1 := below_of hb (below_alloc (below_alloc (below_alloc hB _) _) _) | have hB1 := below_of hb (below_alloc (below_alloc (below_alloc (below_alloc hB _) _) _) _) | have hB1 := below_of hb (below_alloc (below_alloc (below_alloc (below_alloc (below_alloc hB _) _) _) _) _) | have hB1 := below_of hb (Below.drew (below_alloc hB _)) | have hB1 := below_of hb (Below.drew (below_alloc (below_alloc hB _) _)) | have hB1 := below_of hb (Below.drew (below_alloc (below_alloc (below_alloc hB _) _) _)) | have hB1 := below_of hb (Below.drew (below_alloc (below_alloc (below_alloc (below_alloc hB _) _) _) _)) | have hB1 := below_of hb (Below.drew (below_alloc (below_alloc (below_alloc (below_alloc (below_alloc hB _) _) _) _) _)) | have hB1 := below_of hb (below_drw (below_alloc hB _) _) | have hB1 := below_of hb (below_drw (below_alloc (below_alloc hB _) _) _) | have hB1 := below_of hb (below_drw (below_alloc (below_alloc (below_alloc hB _) _) _) _) | have hB1 := below_of hb (below_drw (below_alloc (below_alloc (below_alloc (below_alloc hB _) _) _) _) _) | have hB1 := below_of hb (below_drw (below_alloc (below_alloc (below_alloc (below_alloc (below_alloc hB _) _) _) _) _) _)); clear hB hc hf hz; have hB := hB1; clear hB1; obtain ⟨hc, hf, hz⟩ := bcell hB; obtain ⟨hc_, hf_, hz_⟩ := bcell hb; clear hb) | (have hB := hb; clear hb; obtain ⟨hc, hf, hz⟩ := bcell hB)))
    all_goals go_ret
    all_goals exact ⟨rfl, (by repeat (first | (with_reducible exact Below.refl _ _) | (with_reducible refine Below.drew ?_) | (with_reducible refine below_drw ?_ _) | (with_reducible refine below_alloc ?_ _) | (with_reducible refine below_set ?_ (by simp <;> omega) _) | (refine below_of (by assumption) ?_)))⟩
end
end Go.Proofs.YtmloiifnadaaoaaGreat
