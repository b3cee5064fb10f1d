/- The walk of start (tegulalaw14): two disks of the program on one power supply. -/
import Derived.Test.YtmloiifnadaaoaaGreatActA
import Derived.Test.YtmloiifnadaaoaaGreatDskW3
import Derived.Test.YtmloiifnadaaoaaGreatRDskN
import Derived.Test.YtmloiifnadaaoaaGreatFltW2
import Derived.Test.YtmloiifnadaaoaaGreatRCchW3
namespace Go.Proofs.YtmloiifnadaaoaaGreat
open Go.RowKit
set_option linter.unusedVariables false
set_option linter.unusedSimpArgs false

/-- A block that holds these cells. -/
def Row (T : TypeId) (n : Nat) (cs : Array Value) (W : World) : Prop := W.heap[n]? = some (.cells cs T (0, 0))
namespace Row
variable {T : TypeId} {n : Nat} {cs : Array Value} {W W' : World}
theorem hasT (h : Row T n cs W) : HasT W n T := ⟨_, _, h⟩
theorem lt (h : Row T n cs W) : n < W.heap.size := h.hasT.lt
theorem new (W : World) (T : TypeId) (cs : Array Value) : Row T W.heap.size cs (W.alloc (.cells cs T)) := heap_alloc_new _ _
theorem below (h : Row T n cs W) (hb : Below W.heap.size W W') : Row T n cs W' := (hb.block n h.lt).trans h
theorem alloc (h : Row T n cs W) (o : Obj) : Row T n cs (W.alloc o) := h.below ((Below.refl _ _).alloc (Nat.le_refl _) _)
theorem other (h : Row T n cs W) {k : Nat} (hk : ¬ k = n) (i : Nat) (v : Value) : Row T n cs (W.setCell ⟨k, i, none⟩ v) := (Below.heap_setCell _ _ _ _ (fun e => hk e.symm)).trans h
theorem set (h : Row T n cs W) (i : Nat) (v : Value) : Row T n (cs.setIfInBounds i v) (W.setCell ⟨n, i, none⟩ v) := head_set h i v
theorem fr {S : Nat → Prop} (h : Row T n cs W) (hF : Fr S W W') (hS : ¬ S n) : Row T n cs W' := (hF.block n h.lt hS).trans h
theorem cell (h : Row T n cs W) {i : Nat} {v : Value} (hv : cs[i]? = some v) : W.cell? ⟨n, i, none⟩ = some v := by rw [cell_of_row _ n _ _ _ _ h]; exact hv
theorem fz (h : Row T n cs W) (i : Nat) : W.frozen? ⟨n, i, none⟩ = false := by
  have h1 : W.heap[n]? = some (.cells cs T (0, 0)) := h
  simp [World.frozen?, h1]
end Row
abbrev caseCells (r b t s o : Int) (v0 v1 v2 : Value) : Array Value := #[.int .i64 r, .int .i64 b, .int .i64 t, .int .i64 s, .int .i64 o, v0, v1, v2]
def newSt (g : Geo) (l0 l1 : List Flt) (i : Bool) : Dsk := Dsk.new g (if i then l1 else l0) Pow.new
abbrev pairCells (p q0 q1 : Option Addr) : Array Value := #[.pointer p, .pointer q0, .pointer q1]
abbrev at0 (n : Nat) : Option Addr := some ⟨n, 0, none⟩

/-- Under way in start. -/
structure StB (w : World) (cc : Array Value) (pp n2 : Nat) (wr : World) : Prop where
  bel : Below w.heap.size w wr
  box : Row 28 w.heap.size cc wr
  res : Row 35 (w.heap.size + 1) (pairCells none none none) wr
  pow : IsPow wr (· = pp) pp Pow.new
  lp : w.heap.size ≤ pp
  ln : w.heap.size + 1 < n2
structure St1 (w : World) (g : Geo) (l0 : List Flt) (pp q0 s0 s1 : Nat) (wr : World) : Prop where
  dsk : IsDisk wr (fun k => s0 ≤ k ∧ k < s1) q0 pp (Dsk.new g l0 Pow.new)
  lp : pp < s0
  l1 : s1 ≤ wr.heap.size
  l0 : w.heap.size ≤ s0
def StRel (w : World) (cc : Array Value) (g : Geo) (l0 l1 : List Flt) (pp n2 j : Nat) (wr : World) : Prop :=
  StB w cc pp n2 wr ∧
  ((j = 0 ∧ Row 35 n2 (pairCells (at0 pp) none none) wr) ∨
   (j = 1 ∧ ∃ q0 s0 s1, Row 35 n2 (pairCells (at0 pp) (at0 q0) none) wr ∧ St1 w g l0 pp q0 s0 s1 wr) ∨
   (j = 2 ∧ ∃ q : Bool → Nat, Row 35 n2 (pairCells (at0 pp) (at0 (q false)) (at0 (q true))) wr ∧ Two wr w.heap.size pp q Pow.new (newSt g l0 l1)))
/-- One disk was made, and stored. -/
theorem st_set {w wr w3 : World} {cc : Array Value} {pp n2 : Nat} (h : StB w cc pp n2 wr) (hb : Below wr.heap.size wr w3) {cs : Array Value} (hr : Row 35 n2 cs wr) (i : Nat) (v : Value) : StB w cc pp n2 (w3.setCell ⟨n2, i, none⟩ v) ∧ Row 35 n2 (cs.setIfInBounds i v) (w3.setCell ⟨n2, i, none⟩ v) := by
  have h2 := h.ln
  have hr3 := hr.below hb
  refine ⟨⟨below_set (below_of hb h.bel) (by simp only; omega) _, (h.box.below hb).other (by omega) _ _, (h.res.below hb).other (by omega) _ _, (h.pow.below hb).keepA (fr_one w3 n2 i v) (avoid_one hr3.hasT (by decide)), h.lp, h.ln⟩, hr3.set i v⟩
theorem st_one {w wr wx w3 : World} {g : Geo} {l0 : List Flt} {pp n2 q0 : Nat} {cs : Array Value} (hx : wx.heap.size = wr.heap.size) (hw : w.heap.size ≤ wr.heap.size) (hp : pp < wr.heap.size) (hD : IsDisk w3 (fun k => wx.heap.size ≤ k) q0 pp (Dsk.new g l0 Pow.new)) (hr : Row 35 n2 cs w3) (i : Nat) (v : Value) : St1 w g l0 pp q0 wr.heap.size w3.heap.size (w3.setCell ⟨n2, i, none⟩ v) := by
  have hF := fr_one w3 n2 i v
  refine ⟨(hD.mono (H := fun k => wr.heap.size ≤ k ∧ k < w3.heap.size) (fun k hk hk2 => ⟨by omega, hk⟩)).keepA hF (avoid_one hr.hasT (by decide)), hp, hF.size, hw⟩
theorem st_two {w wr wx w3 : World} {cc : Array Value} {g : Geo} {l0 l1 : List Flt} {pp n2 q0 q1 s0 s1 : Nat} {cs : Array Value} (hx : wx.heap.size = wr.heap.size) (h : StB w cc pp n2 wr) (h1 : St1 w g l0 pp q0 s0 s1 wr) (hb : Below wr.heap.size wr w3) (hD : IsDisk w3 (fun k => wx.heap.size ≤ k) q1 pp (Dsk.new g l1 Pow.new)) (hr : Row 35 n2 cs w3) (i : Nat) (v : Value) : Two (w3.setCell ⟨n2, i, none⟩ v) w.heap.size pp (fun i => if i then q1 else q0) Pow.new (newSt g l0 l1) := by
  have hF := fr_one w3 n2 i v
  have hA := fun Us hd => (avoid_one hr.hasT (Us := Us) hd : Avoid (· = n2) w3 Us)
  have hp := h1.lp
  have hl := h1.l1
  have hpl := h.pow.hasP.lt
  have hwb := h.bel.size
  refine ⟨fun i k => if i then wr.heap.size ≤ k else s0 ≤ k ∧ k < s1, (h.pow.below hb).keepA hF (hA _ (by decide)), fun i => ?_, fun i k hk => ?_, h.lp, fun i hi => ?_, fun k h0 h2 => ?_⟩
  · cases i
    · exact (h1.dsk.below hb).keepA hF (hA _ (by decide))
    · exact (hD.mono (H := fun k => wr.heap.size ≤ k) (fun k hk hk2 => by omega)).keepA hF (hA _ (by decide))
  · have := h1.l0
    cases i <;> simp at hk <;> omega
  · cases i <;> simp at hi <;> omega
  · simp at h0 h2
    omega
def Start14Is (g : Geo) (l0 l1 : List Flt) (w : World) (e : Ending) (w' : World) : Prop :=
  ∃ (pp : Nat) (q : Bool → Nat), e = .returned (.tuple #[.agg (pairCells (at0 pp) (at0 (q false)) (at0 (q true))), .bool true]) ∧ Two w' w.heap.size pp q Pow.new (newSt g l0 l1) ∧ Below w.heap.size w w'
theorem res_start {tmps : Array Value} {W : World} {n : Nat} {p0 p1 p2 : Option Addr} (h4 : tmps.getD 2 undef = .pointer (some ⟨n, 0, none⟩)) (h5 : tmps.getD 3 undef = .bool true) (h : Row 35 n (pairCells p0 p1 p2) W) :
    (results Tryz.f6 tmps).run Tryz.prog W = .ok (.tuple #[.agg (pairCells p0 p1 p2), .bool true]) W := by
  have c0 := h.cell (i := 0) rfl
  have c1 := h.cell (i := 1) rfl
  have c2 := h.cell (i := 2) rfl
  have hn := h.lt
  rw [Array.getD_eq_getD_getElem?] at h4 h5
  simp [results, Tryz.results6, go_sem, h4, h5, c0, c1, c2, hn]

set_option maxHeartbeats 8000000 in
set_option maxRecDepth 1000000 in
theorem start14_any (r b t s o : Int) (A0 : Option Addr) (l0 : List Flt) (c0 : Nat) (A1 : Option Addr) (l1 : List Flt) (c1 : Nat) (A2 : Option Addr) (m2 c2 : Nat) (w : World) (hv : (Geo.mk r b t s o).ok = true) (hf0 : fltValid l0 = true) (hf1 : fltValid l1 = true) (h0 : FltsRd w A0 l0) (h1 : FltsRd w A1 l1) (hl0 : l0.length * 24 ≤ 140737488351232) (hl1 : l1.length * 24 ≤ 140737488351232) :
    Calls Tryz.prog 6 #[.agg (caseCells r b t s o (.slice A0 l0.length c0) (.slice A1 l1.length c1) (.slice A2 m2 c2))] w (Start14Is (Geo.mk r b t s o) l0 l1 w) := by
  have H0 := Lib.hid h0
  have H1 := Lib.hid h1
  have HF0 := Lib.hid hf0
  have HF1 := Lib.hid hf1
  have b0 : Below w.heap.size w ((w.alloc (.cells (caseCells r b t s o (.slice A0 l0.length c0) (.slice A1 l1.length c1) (.slice A2 m2 c2)) 28)).alloc (.cells (pairCells none none none) 35)) := below_alloc ((Below.refl _ _).alloc (Nat.le_refl _) _) _
  have r0 : Row 28 w.heap.size (caseCells r b t s o (.slice A0 l0.length c0) (.slice A1 l1.length c1) (.slice A2 m2 c2)) ((w.alloc (.cells (caseCells r b t s o (.slice A0 l0.length c0) (.slice A1 l1.length c1) (.slice A2 m2 c2)) 28)).alloc (.cells (pairCells none none none) 35)) := (Row.new _ _ _).alloc _
  have r1 : Row 35 (w.heap.size + 1) (pairCells none none none) ((w.alloc (.cells (caseCells r b t s o (.slice A0 l0.length c0) (.slice A1 l1.length c1) (.slice A2 m2 c2)) 28)).alloc (.cells (pairCells none none none) 35)) := by
    have := Row.new (w.alloc (.cells (caseCells r b t s o (.slice A0 l0.length c0) (.slice A1 l1.length c1) (.slice A2 m2 c2)) 28)) 35 (pairCells none none none)
    simpa using this
  have B0 := Lib.hid b0
  have R0 := Lib.hid r0
  have R1 := Lib.hid r1
  clear h0 h1 hf0 hf1 b0 r0 r1
  go_enter Tryz.func6, Tryz.ntmps6
  go_wp2_with (go_at_call 16; refine (dnewPower_any _).mono ?_; rintro e w1 ⟨pp, rfl, hpp, hP, hb⟩; have P1 := Lib.hid hP; have E1 := Lib.hid hb; have lpp := hP.hasP.lt; clear hP hb)
  have hs1 := E1.out.size
  have hs0 : w.heap.size + 1 < w1.heap.size := by have h9 := R1.out.lt; exact Nat.lt_of_lt_of_le h9 E1.out.size
  have hpw : w.heap.size + 1 < pp := by have h9 := hpp; simp at h9; omega
  have b1 : Below w1.heap.size w1 (w1.alloc (.cells (pairCells (at0 pp) none none) 35)) := (Below.refl _ _).alloc (Nat.le_refl _) _
  have SB : StB w (caseCells r b t s o (.slice A0 l0.length c0) (.slice A1 l1.length c1) (.slice A2 m2 c2)) pp w1.heap.size (w1.alloc (.cells (pairCells (at0 pp) none none) 35)) :=
    ⟨below_of b1 (below_of E1.out B0.out), (R0.out.below E1.out).below b1, (R1.out.below E1.out).below b1, ((P1.out.mono (H := fun k => k = pp) (fun _ => rfl)).below b1), by omega, by omega⟩
  have HSB := Lib.hid (show StRel w (caseCells r b t s o (.slice A0 l0.length c0) (.slice A1 l1.length c1) (.slice A2 m2 c2)) (Geo.mk r b t s o) l0 l1 pp w1.heap.size 0 (w1.alloc (.cells (pairCells (at0 pp) none none) 35)) from ⟨SB, .inl ⟨rfl, Row.new _ _ _⟩⟩)
  clear SB b1 E1 P1 B0 R0 R1 hpp
  go_loopw [5] (fun i wr => ∃ j : Nat, i = .int .i64 j ∧ StRel w (caseCells r b t s o (.slice A0 l0.length c0) (.slice A1 l1.length c1) (.slice A2 m2 c2)) (Geo.mk r b t s o) l0 l1 pp w1.heap.size j wr) (fun i _ => 2 - (intOf i).toNat)
  case atStart => exact ⟨0, rfl, HSB.out⟩
  case round =>
    obtain ⟨j, rfl, SB, hcases⟩ := hrel
    rcases hcases with ⟨rfl, hr⟩ | ⟨rfl, q0, s0, s1, hr, hd⟩ | ⟨rfl, q, hr, hT⟩
    · have z0 := SB.box.cell (i := 0) rfl
      have z1 := SB.box.cell (i := 1) rfl
      have z2 := SB.box.cell (i := 2) rfl
      have z3 := SB.box.cell (i := 3) rfl
      have z4 := SB.box.cell (i := 4) rfl
      have z5 := SB.box.cell (i := 5) rfl
      have y0 := hr.cell (i := 0) rfl
      have lbx := SB.box.lt
      have lbn := hr.lt
      have PW := Lib.hid SB.pow
      have EB := Lib.hid SB.bel
      have HSB := Lib.hid SB
      have HR := Lib.hid hr
      clear SB hr
      go_wp2_with fail
      go_region_held3 (fun W_ => (∀ b_ o_, b_ < (wr).heap.size → W_.cell? ⟨b_, o_, none⟩ = (wr).cell? ⟨b_, o_, none⟩) ∧ (∀ b_ o_, b_ < (wr).heap.size → W_.frozen? ⟨b_, o_, none⟩ = (wr).frozen? ⟨b_, o_, none⟩) ∧ (∀ k_, k_ < (wr).heap.size → k_ < W_.heap.size) ∧ Below (wr).heap.size (wr) W_) (first | exact held_start _ | assumption | exact held_keep (by assumption) (by assumption) | exact held_keep (by assumption) ((Below.refl _ _).alloc (Nat.le_refl _) _) | exact held_of (by assumption)) (first | (go_at_call 17; refine (dnew_yes r b t s o A0 l0 c0 (· = pp) pp Pow.new _ hv HF0.out (H0.out.below (below_of (by repeat (first | (with_reducible exact Below.refl _ _) | (with_reducible refine Below.drew ?_) | (with_reducible refine below_drw ?_ _) | (with_reducible refine below_alloc ?_ _) | (with_reducible refine below_set ?_ (by simp <;> omega) _) | (refine below_of (by assumption) ?_))) EB.out)) hl0 (PW.out.below (by repeat (first | (with_reducible exact Below.refl _ _) | (with_reducible refine Below.drew ?_) | (with_reducible refine below_drw ?_ _) | (with_reducible refine below_alloc ?_ _) | (with_reducible refine below_set ?_ (by simp <;> omega) _) | (refine below_of (by assumption) ?_))))).mono ?_; rintro e w3 ⟨hb3, pd, rfl, hD⟩; have hb4 : Below wr.heap.size wr w3 := below_of hb3 (by repeat (first | (with_reducible exact Below.refl _ _) | (with_reducible refine Below.drew ?_) | (with_reducible refine below_drw ?_ _) | (with_reducible refine below_alloc ?_ _) | (with_reducible refine below_set ?_ (by simp <;> omega) _) | (refine below_of (by assumption) ?_))); have HB3 := Lib.hid hb4; have HD := Lib.hid hD; have y1 := (HR.out.below hb4).cell (i := 1) rfl; have fy := (HR.out.below hb4).fz 1; have ly := (HR.out.below hb4).lt; clear hb3 hD hb4))
      all_goals (try go_wp2)
      all_goals go_roundw
      case rel => exact ⟨1, by go_num, (st_set HSB.out HB3.out HR.out 1 _).1, .inr (.inl ⟨rfl, pd, wr.heap.size, w3.heap.size, (st_set HSB.out HB3.out HR.out 1 _).2, st_one (by first | rfl | simp) HSB.out.bel.size HSB.out.pow.hasP.lt HD.out (HR.out.below HB3.out) 1 _⟩)⟩
      case measure => simp [intOf]
    · have z0 := SB.box.cell (i := 0) rfl
      have z1 := SB.box.cell (i := 1) rfl
      have z2 := SB.box.cell (i := 2) rfl
      have z3 := SB.box.cell (i := 3) rfl
      have z4 := SB.box.cell (i := 4) rfl
      have z5 := SB.box.cell (i := 6) rfl
      have y0 := hr.cell (i := 0) rfl
      have lbx := SB.box.lt
      have lbn := hr.lt
      have PW := Lib.hid SB.pow
      have EB := Lib.hid SB.bel
      have HSB := Lib.hid SB
      have HR := Lib.hid hr
      have HD1 := Lib.hid hd
      clear SB hr hd
      go_wp2_with fail
      go_region_held3 (fun W_ => (∀ b_ o_, b_ < (wr).heap.size → W_.cell? ⟨b_, o_, none⟩ = (wr).cell? ⟨b_, o_, none⟩) ∧ (∀ b_ o_, b_ < (wr).heap.size → W_.frozen? ⟨b_, o_, none⟩ = (wr).frozen? ⟨b_, o_, none⟩) ∧ (∀ k_, k_ < (wr).heap.size → k_ < W_.heap.size) ∧ Below (wr).heap.size (wr) W_) (first | exact held_start _ | assumption | exact held_keep (by assumption) (by assumption) | exact held_keep (by assumption) ((Below.refl _ _).alloc (Nat.le_refl _) _) | exact held_of (by assumption)) (first | (go_at_call 17; refine (dnew_yes r b t s o A1 l1 c1 (· = pp) pp Pow.new _ hv HF1.out (H1.out.below (below_of (by repeat (first | (with_reducible exact Below.refl _ _) | (with_reducible refine Below.drew ?_) | (with_reducible refine below_drw ?_ _) | (with_reducible refine below_alloc ?_ _) | (with_reducible refine below_set ?_ (by simp <;> omega) _) | (refine below_of (by assumption) ?_))) EB.out)) hl1 (PW.out.below (by repeat (first | (with_reducible exact Below.refl _ _) | (with_reducible refine Below.drew ?_) | (with_reducible refine below_drw ?_ _) | (with_reducible refine below_alloc ?_ _) | (with_reducible refine below_set ?_ (by simp <;> omega) _) | (refine below_of (by assumption) ?_))))).mono ?_; rintro e w3 ⟨hb3, pd, rfl, hD⟩; have hb4 : Below wr.heap.size wr w3 := below_of hb3 (by repeat (first | (with_reducible exact Below.refl _ _) | (with_reducible refine Below.drew ?_) | (with_reducible refine below_drw ?_ _) | (with_reducible refine below_alloc ?_ _) | (with_reducible refine below_set ?_ (by simp <;> omega) _) | (refine below_of (by assumption) ?_))); have HB3 := Lib.hid hb4; have HD := Lib.hid hD; have y1 := (HR.out.below hb4).cell (i := 2) rfl; have fy := (HR.out.below hb4).fz 2; have ly := (HR.out.below hb4).lt; clear hb3 hD hb4))
      all_goals (try go_wp2)
      all_goals go_roundw
      case rel => exact ⟨2, by go_num, (st_set HSB.out HB3.out HR.out 2 _).1, .inr (.inr ⟨rfl, fun i => if i then pd else q0, (st_set HSB.out HB3.out HR.out 2 _).2, st_two (by first | rfl | simp) HSB.out HD1.out HB3.out HD.out (HR.out.below HB3.out) 2 _⟩)⟩
      case measure => simp [intOf]
    · have y0 := hr.cell (i := 0) rfl
      have y1 := hr.cell (i := 1) rfl
      have y2 := hr.cell (i := 2) rfl
      have lbn := hr.lt
      have x0 := SB.res.cell (i := 0) rfl
      have x1 := SB.res.cell (i := 1) rfl
      have x2 := SB.res.cell (i := 2) rfl
      have f0 := SB.res.fz 0
      have f1 := SB.res.fz 1
      have f2 := SB.res.fz 2
      have lr := SB.res.lt
      have HSB := Lib.hid SB
      have HTW := Lib.hid hT
      clear SB hr hT
      go_wp2
      have R3 := ((HSB.out.res.set 0 (.pointer (at0 pp))).set 1 (.pointer (at0 (q false)))).set 2 (.pointer (at0 (q true)))
      refine bodyPost_ret (v := .tuple #[.agg (pairCells (at0 pp) (at0 (q false)) (at0 (q true))), .bool true]) (res_start rfl rfl R3) rfl ?_
      have F3 := ((fr_one wr (w.heap.size + 1) 0 (.pointer (at0 pp))).trans (fr_one _ (w.heap.size + 1) 1 (.pointer (at0 (q false))))).trans (fr_one _ (w.heap.size + 1) 2 (.pointer (at0 (q true))))
      exact ⟨pp, q, rfl, HTW.out.keepA F3 (avoid_one HSB.out.res.hasT (by decide)) (avoid_one HSB.out.res.hasT (by decide)), below_set (below_set (below_set HSB.out.bel (by simp) _) (by simp) _) (by simp) _⟩
end Go.Proofs.YtmloiifnadaaoaaGreat
/- The walk of begin (tegulalaw14): two disks of the reference on one power supply. -/
namespace Go.Proofs.YtmloiifnadaaoaaGreat
open Go.RowKit
set_option linter.unusedVariables false
set_option linter.unusedSimpArgs false

abbrev duoCells (q0 q1 : Option Addr) : Array Value := #[.pointer q0, .pointer q1]

/-- Under way in start. -/
structure BgB (w : World) (cc : Array Value) (pp n2 : Nat) (wr : World) : Prop where
  bel : Below w.heap.size w wr
  box : Row 28 w.heap.size cc wr
  res : Row 40 (w.heap.size + 1) (duoCells none none) wr
  pow : IsRPow wr (· = pp) pp Pow.new
  lp : w.heap.size ≤ pp
  ln : w.heap.size + 1 < n2
structure Bg1 (w : World) (g : Geo) (l0 : List Flt) (pp q0 s0 s1 : Nat) (wr : World) : Prop where
  dsk : IsRDisk wr (fun k => s0 ≤ k ∧ k < s1) q0 pp (Dsk.new g l0 Pow.new)
  lp : pp < s0
  l1 : s1 ≤ wr.heap.size
  l0 : w.heap.size ≤ s0
def BgRel (w : World) (cc : Array Value) (g : Geo) (l0 l1 : List Flt) (pp n2 j : Nat) (wr : World) : Prop :=
  BgB w cc pp n2 wr ∧
  ((j = 0 ∧ Row 40 n2 (duoCells none none) wr) ∨
   (j = 1 ∧ ∃ q0 s0 s1, Row 40 n2 (duoCells (at0 q0) none) wr ∧ Bg1 w g l0 pp q0 s0 s1 wr) ∨
   (j = 2 ∧ ∃ q : Bool → Nat, Row 40 n2 (duoCells (at0 (q false)) (at0 (q true))) wr ∧ RTwo wr w.heap.size pp q Pow.new (newSt g l0 l1)))
/-- One disk was made, and stored. -/
theorem bg_set {w wr w3 : World} {cc : Array Value} {pp n2 : Nat} (h : BgB w cc pp n2 wr) (hb : Below wr.heap.size wr w3) {cs : Array Value} (hr : Row 40 n2 cs wr) (i : Nat) (v : Value) : BgB w cc pp n2 (w3.setCell ⟨n2, i, none⟩ v) ∧ Row 40 n2 (cs.setIfInBounds i v) (w3.setCell ⟨n2, i, none⟩ v) := by
  have h2 := h.ln
  have hr3 := hr.below hb
  refine ⟨⟨below_set (below_of hb h.bel) (by simp only; omega) _, (h.box.below hb).other (by omega) _ _, (h.res.below hb).other (by omega) _ _, (h.pow.below hb).keepA (fr_one w3 n2 i v) (avoid_one hr3.hasT (by decide)), h.lp, h.ln⟩, hr3.set i v⟩
theorem bg_one {w wr wx w3 : World} {g : Geo} {l0 : List Flt} {pp n2 q0 : Nat} {cs : Array Value} (hx : wx.heap.size = wr.heap.size) (hw : w.heap.size ≤ wr.heap.size) (hp : pp < wr.heap.size) (hD : IsRDisk w3 (fun k => wx.heap.size ≤ k) q0 pp (Dsk.new g l0 Pow.new)) (hr : Row 40 n2 cs w3) (i : Nat) (v : Value) : Bg1 w g l0 pp q0 wr.heap.size w3.heap.size (w3.setCell ⟨n2, i, none⟩ v) := by
  have hF := fr_one w3 n2 i v
  refine ⟨(hD.mono (H := fun k => wr.heap.size ≤ k ∧ k < w3.heap.size) (fun k hk hk2 => ⟨by omega, hk⟩)).keepA hF (avoid_one hr.hasT (by decide)), hp, hF.size, hw⟩
theorem bg_two {w wr wx w3 : World} {cc : Array Value} {g : Geo} {l0 l1 : List Flt} {pp n2 q0 q1 s0 s1 : Nat} {cs : Array Value} (hx : wx.heap.size = wr.heap.size) (h : BgB w cc pp n2 wr) (h1 : Bg1 w g l0 pp q0 s0 s1 wr) (hb : Below wr.heap.size wr w3) (hD : IsRDisk w3 (fun k => wx.heap.size ≤ k) q1 pp (Dsk.new g l1 Pow.new)) (hr : Row 40 n2 cs w3) (i : Nat) (v : Value) : RTwo (w3.setCell ⟨n2, i, none⟩ v) w.heap.size pp (fun i => if i then q1 else q0) Pow.new (newSt g l0 l1) := by
  have hF := fr_one w3 n2 i v
  have hA := fun Us hd => (avoid_one hr.hasT (Us := Us) hd : Avoid (· = n2) w3 Us)
  have hp := h1.lp
  have hl := h1.l1
  have hpl := h.pow.hasP.lt
  have hwb := h.bel.size
  refine ⟨fun i k => if i then wr.heap.size ≤ k else s0 ≤ k ∧ k < s1, (h.pow.below hb).keepA hF (hA _ (by decide)), fun i => ?_, fun i k hk => ?_, h.lp, fun i hi => ?_, fun k h0 h2 => ?_⟩
  · cases i
    · exact (h1.dsk.below hb).keepA hF (hA _ (by decide))
    · exact (hD.mono (H := fun k => wr.heap.size ≤ k) (fun k hk hk2 => by omega)).keepA hF (hA _ (by decide))
  · have := h1.l0
    cases i <;> simp at hk <;> omega
  · cases i <;> simp at hi <;> omega
  · simp at h0 h2
    omega
def Begin14Is (g : Geo) (l0 l1 : List Flt) (w : World) (e : Ending) (w' : World) : Prop :=
  ∃ (pp : Nat) (q : Bool → Nat), e = .returned (.tuple #[.pointer (at0 pp), .agg (duoCells (at0 (q false)) (at0 (q true)))]) ∧ RTwo w' w.heap.size pp q Pow.new (newSt g l0 l1) ∧ Below w.heap.size w w'
theorem res_begin14 {tmps : Array Value} {W : World} {n pp : Nat} {p0 p1 : Option Addr} (h4 : tmps.getD 2 undef = .pointer (at0 pp)) (h5 : tmps.getD 3 undef = .pointer (some ⟨n, 0, none⟩)) (h : Row 40 n (duoCells p0 p1) W) :
    (results Tryz.f7 tmps).run Tryz.prog W = .ok (.tuple #[.pointer (at0 pp), .agg (duoCells p0 p1)]) W := by
  have c0 := h.cell (i := 0) rfl
  have c1 := h.cell (i := 1) rfl
  have hn := h.lt
  rw [Array.getD_eq_getD_getElem?] at h4 h5
  simp [results, Tryz.results7, go_sem, h4, h5, c0, c1, hn]
/-- What the region of a round reads. -/
def HeldC (n k : Nat) (u0 u1 u2 u3 u4 u5 : Value) (W : World) : Prop := W.cell? ⟨n, 0, none⟩ = some u0 ∧ W.cell? ⟨n, 1, none⟩ = some u1 ∧ W.cell? ⟨n, 2, none⟩ = some u2 ∧ W.cell? ⟨n, 3, none⟩ = some u3 ∧ W.cell? ⟨n, 4, none⟩ = some u4 ∧ W.cell? ⟨n, k, none⟩ = some u5
theorem HeldC.keep {n k : Nat} {u0 u1 u2 u3 u4 u5 : Value} {W W' : World} (h : HeldC n k u0 u1 u2 u3 u4 u5 W) (hb : Below W.heap.size W W') : HeldC n k u0 u1 u2 u3 u4 u5 W' :=
  ⟨cell_later hb h.1, cell_later hb h.2.1, cell_later hb h.2.2.1, cell_later hb h.2.2.2.1, cell_later hb h.2.2.2.2.1, cell_later hb h.2.2.2.2.2⟩
theorem HeldC.set {n k : Nat} {u0 u1 u2 u3 u4 u5 : Value} {W : World} (h : HeldC n k u0 u1 u2 u3 u4 u5 W) {m : Nat} (hm : ¬ m = n) (i : Nat) (v : Value) : HeldC n k u0 u1 u2 u3 u4 u5 (W.setCell ⟨m, i, none⟩ v) := by
  have hne : ∀ j, (⟨m, i, none⟩ : Addr) ≠ ⟨n, j, none⟩ := fun j e => hm (by injection e)
  exact ⟨by rw [World.cell?_setCell_other _ _ _ _ (hne 0)]; exact h.1, by rw [World.cell?_setCell_other _ _ _ _ (hne 1)]; exact h.2.1, by rw [World.cell?_setCell_other _ _ _ _ (hne 2)]; exact h.2.2.1, by rw [World.cell?_setCell_other _ _ _ _ (hne 3)]; exact h.2.2.2.1, by rw [World.cell?_setCell_other _ _ _ _ (hne 4)]; exact h.2.2.2.2.1, by rw [World.cell?_setCell_other _ _ _ _ (hne k)]; exact h.2.2.2.2.2⟩

set_option maxHeartbeats 8000000 in
set_option maxRecDepth 1000000 in
theorem begin14_any (r b t s o : Int) (A0 : Option Addr) (l0 : List Flt) (c0 : Nat) (A1 : Option Addr) (l1 : List Flt) (c1 : Nat) (A2 : Option Addr) (m2 c2 : Nat) (w : World) (hv : (Geo.mk r b t s o).ok = true) (hf0 : fltValid l0 = true) (hf1 : fltValid l1 = true) (h0 : FltsRd w A0 l0) (h1 : FltsRd w A1 l1) (hl0 : l0.length * 24 ≤ 140737488351232) (hl1 : l1.length * 24 ≤ 140737488351232) :
    Calls Tryz.prog 7 #[.agg (caseCells r b t s o (.slice A0 l0.length c0) (.slice A1 l1.length c1) (.slice A2 m2 c2))] w (Begin14Is (Geo.mk r b t s o) l0 l1 w) := by
  have H0 := Lib.hid h0
  have H1 := Lib.hid h1
  have HF0 := Lib.hid hf0
  have HF1 := Lib.hid hf1
  have b0 : Below w.heap.size w ((w.alloc (.cells (caseCells r b t s o (.slice A0 l0.length c0) (.slice A1 l1.length c1) (.slice A2 m2 c2)) 28)).alloc (.cells (duoCells none none) 40)) := below_alloc ((Below.refl _ _).alloc (Nat.le_refl _) _) _
  have r0 : Row 28 w.heap.size (caseCells r b t s o (.slice A0 l0.length c0) (.slice A1 l1.length c1) (.slice A2 m2 c2)) ((w.alloc (.cells (caseCells r b t s o (.slice A0 l0.length c0) (.slice A1 l1.length c1) (.slice A2 m2 c2)) 28)).alloc (.cells (duoCells none none) 40)) := (Row.new _ _ _).alloc _
  have r1 : Row 40 (w.heap.size + 1) (duoCells none none) ((w.alloc (.cells (caseCells r b t s o (.slice A0 l0.length c0) (.slice A1 l1.length c1) (.slice A2 m2 c2)) 28)).alloc (.cells (duoCells none none) 40)) := by
    have := Row.new (w.alloc (.cells (caseCells r b t s o (.slice A0 l0.length c0) (.slice A1 l1.length c1) (.slice A2 m2 c2)) 28)) 40 (duoCells none none)
    simpa using this
  have B0 := Lib.hid b0
  have R0 := Lib.hid r0
  have R1 := Lib.hid r1
  clear h0 h1 hf0 hf1 b0 r0 r1
  go_enter Tryz.func7, Tryz.ntmps7
  go_wp2_with (go_at_call 25; refine (rnewPower_any _).mono ?_; rintro e w1 ⟨pp, rfl, hpp, hP, hb⟩; have P1 := Lib.hid hP; have E1 := Lib.hid hb; have lpp := hP.hasP.lt; clear hP hb)
  have hs1 := E1.out.size
  have hs0 : w.heap.size + 1 < w1.heap.size := by have h9 := R1.out.lt; exact Nat.lt_of_lt_of_le h9 E1.out.size
  have hpw : w.heap.size + 1 < pp := by have h9 := hpp; simp at h9; omega
  have b1 : Below w1.heap.size w1 (w1.alloc (.cells (duoCells none none) 40)) := (Below.refl _ _).alloc (Nat.le_refl _) _
  have SB : BgB w (caseCells r b t s o (.slice A0 l0.length c0) (.slice A1 l1.length c1) (.slice A2 m2 c2)) pp w1.heap.size (w1.alloc (.cells (duoCells none none) 40)) :=
    ⟨below_of b1 (below_of E1.out B0.out), (R0.out.below E1.out).below b1, (R1.out.below E1.out).below b1, ((P1.out.mono (H := fun k => k = pp) (fun _ => rfl)).below b1), by omega, by omega⟩
  have HSB := Lib.hid (show BgRel w (caseCells r b t s o (.slice A0 l0.length c0) (.slice A1 l1.length c1) (.slice A2 m2 c2)) (Geo.mk r b t s o) l0 l1 pp w1.heap.size 0 (w1.alloc (.cells (duoCells none none) 40)) from ⟨SB, .inl ⟨rfl, Row.new _ _ _⟩⟩)
  clear SB b1 E1 P1 B0 R0 R1 hpp
  go_loopw [6] (fun i wr => ∃ j : Nat, i = .int .i64 j ∧ BgRel w (caseCells r b t s o (.slice A0 l0.length c0) (.slice A1 l1.length c1) (.slice A2 m2 c2)) (Geo.mk r b t s o) l0 l1 pp w1.heap.size j wr) (fun i _ => 2 - (intOf i).toNat)
  case atStart => exact ⟨0, rfl, HSB.out⟩
  case round =>
    obtain ⟨j, rfl, SB, hcases⟩ := hrel
    rcases hcases with ⟨rfl, hr⟩ | ⟨rfl, q0, s0, s1, hr, hd⟩ | ⟨rfl, q, hr, hT⟩
    · have z0 := SB.box.cell (i := 0) rfl
      have z1 := SB.box.cell (i := 1) rfl
      have z2 := SB.box.cell (i := 2) rfl
      have z3 := SB.box.cell (i := 3) rfl
      have z4 := SB.box.cell (i := 4) rfl
      have z5 := SB.box.cell (i := 5) rfl
      have HS0 := Lib.hid (show HeldC w.heap.size 5 _ _ _ _ _ _ wr from ⟨z0, z1, z2, z3, z4, z5⟩)
      have lbx := SB.box.lt
      have lbn := hr.lt
      have hnn : ¬ w1.heap.size = w.heap.size := by have := SB.ln; omega
      have PW := Lib.hid SB.pow
      have EB := Lib.hid SB.bel
      have HSB := Lib.hid SB
      have HR := Lib.hid hr
      clear SB hr
      go_wp2_with fail
      go_region_held3 (fun W_ => W_.cell? ⟨w.heap.size, 0, none⟩ = some (.int .i64 r) ∧ W_.cell? ⟨w.heap.size, 1, none⟩ = some (.int .i64 b) ∧ W_.cell? ⟨w.heap.size, 2, none⟩ = some (.int .i64 t) ∧ W_.cell? ⟨w.heap.size, 3, none⟩ = some (.int .i64 s) ∧ W_.cell? ⟨w.heap.size, 4, none⟩ = some (.int .i64 o) ∧ W_.cell? ⟨w.heap.size, 5, none⟩ = some (.slice A0 l0.length c0)) (first | assumption | exact HeldC.keep HS0.out (Below.refl _ _).drew | exact HS0.out | exact HS3.out | exact HeldC.set HS3.out hnn _ _) (first | (go_at_call 26; refine (rdnew_yes r b t s o A0 l0 c0 (· = pp) pp Pow.new _ hv HF0.out (H0.out.below (below_of (by repeat (first | (with_reducible exact Below.refl _ _) | (with_reducible refine Below.drew ?_) | (with_reducible refine below_drw ?_ _) | (with_reducible refine below_alloc ?_ _) | (with_reducible refine below_set ?_ (by simp <;> omega) _) | (refine below_of (by assumption) ?_))) EB.out)) hl0 (PW.out.below (by repeat (first | (with_reducible exact Below.refl _ _) | (with_reducible refine Below.drew ?_) | (with_reducible refine below_drw ?_ _) | (with_reducible refine below_alloc ?_ _) | (with_reducible refine below_set ?_ (by simp <;> omega) _) | (refine below_of (by assumption) ?_))))).mono ?_; rintro e w3 ⟨hb3, pd, rfl, hD⟩; have hb4 : Below wr.heap.size wr w3 := below_of hb3 (by repeat (first | (with_reducible exact Below.refl _ _) | (with_reducible refine Below.drew ?_) | (with_reducible refine below_drw ?_ _) | (with_reducible refine below_alloc ?_ _) | (with_reducible refine below_set ?_ (by simp <;> omega) _) | (refine below_of (by assumption) ?_))); have HB3 := Lib.hid hb4; have HD := Lib.hid hD; have HS3 := Lib.hid (HeldC.keep HS0.out hb4); have y1 := (HR.out.below hb4).cell (i := 0) rfl; have fy := (HR.out.below hb4).fz 0; have ly := (HR.out.below hb4).lt; clear hb3 hD hb4))
      all_goals (try go_wp2)
      all_goals go_roundw
      case rel => exact ⟨1, by go_num, (bg_set HSB.out HB3.out HR.out 0 _).1, .inr (.inl ⟨rfl, pd, wr.heap.size, w3.heap.size, (bg_set HSB.out HB3.out HR.out 0 _).2, bg_one (by first | rfl | simp) HSB.out.bel.size HSB.out.pow.hasP.lt HD.out (HR.out.below HB3.out) 0 _⟩)⟩
      case measure => simp [intOf]
    · have z0 := SB.box.cell (i := 0) rfl
      have z1 := SB.box.cell (i := 1) rfl
      have z2 := SB.box.cell (i := 2) rfl
      have z3 := SB.box.cell (i := 3) rfl
      have z4 := SB.box.cell (i := 4) rfl
      have z5 := SB.box.cell (i := 6) rfl
      have HS0 := Lib.hid (show HeldC w.heap.size 6 _ _ _ _ _ _ wr from ⟨z0, z1, z2, z3, z4, z5⟩)
      have lbx := SB.box.lt
      have lbn := hr.lt
      have hnn : ¬ w1.heap.size = w.heap.size := by have := SB.ln; omega
      have PW := Lib.hid SB.pow
      have EB := Lib.hid SB.bel
      have HSB := Lib.hid SB
      have HR := Lib.hid hr
      have HD1 := Lib.hid hd
      clear SB hr hd
      go_wp2_with fail
      go_region_held3 (fun W_ => W_.cell? ⟨w.heap.size, 0, none⟩ = some (.int .i64 r) ∧ W_.cell? ⟨w.heap.size, 1, none⟩ = some (.int .i64 b) ∧ W_.cell? ⟨w.heap.size, 2, none⟩ = some (.int .i64 t) ∧ W_.cell? ⟨w.heap.size, 3, none⟩ = some (.int .i64 s) ∧ W_.cell? ⟨w.heap.size, 4, none⟩ = some (.int .i64 o) ∧ W_.cell? ⟨w.heap.size, 6, none⟩ = some (.slice A1 l1.length c1)) (first | assumption | exact HeldC.keep HS0.out (Below.refl _ _).drew | exact HS0.out | exact HS3.out | exact HeldC.set HS3.out hnn _ _) (first | (go_at_call 26; refine (rdnew_yes r b t s o A1 l1 c1 (· = pp) pp Pow.new _ hv HF1.out (H1.out.below (below_of (by repeat (first | (with_reducible exact Below.refl _ _) | (with_reducible refine Below.drew ?_) | (with_reducible refine below_drw ?_ _) | (with_reducible refine below_alloc ?_ _) | (with_reducible refine below_set ?_ (by simp <;> omega) _) | (refine below_of (by assumption) ?_))) EB.out)) hl1 (PW.out.below (by repeat (first | (with_reducible exact Below.refl _ _) | (with_reducible refine Below.drew ?_) | (with_reducible refine below_drw ?_ _) | (with_reducible refine below_alloc ?_ _) | (with_reducible refine below_set ?_ (by simp <;> omega) _) | (refine below_of (by assumption) ?_))))).mono ?_; rintro e w3 ⟨hb3, pd, rfl, hD⟩; have hb4 : Below wr.heap.size wr w3 := below_of hb3 (by repeat (first | (with_reducible exact Below.refl _ _) | (with_reducible refine Below.drew ?_) | (with_reducible refine below_drw ?_ _) | (with_reducible refine below_alloc ?_ _) | (with_reducible refine below_set ?_ (by simp <;> omega) _) | (refine below_of (by assumption) ?_))); have HB3 := Lib.hid hb4; have HD := Lib.hid hD; have HS3 := Lib.hid (HeldC.keep HS0.out hb4); have y1 := (HR.out.below hb4).cell (i := 1) rfl; have fy := (HR.out.below hb4).fz 1; have ly := (HR.out.below hb4).lt; clear hb3 hD hb4))
      all_goals (try go_wp2)
      all_goals go_roundw
      case rel => exact ⟨2, by go_num, (bg_set HSB.out HB3.out HR.out 1 _).1, .inr (.inr ⟨rfl, fun i => if i then pd else q0, (bg_set HSB.out HB3.out HR.out 1 _).2, bg_two (by first | rfl | simp) HSB.out HD1.out HB3.out HD.out (HR.out.below HB3.out) 1 _⟩)⟩
      case measure => simp [intOf]
    · have y0 := hr.cell (i := 0) rfl
      have y1 := hr.cell (i := 1) rfl
      have lbn := hr.lt
      have x0 := SB.res.cell (i := 0) rfl
      have x1 := SB.res.cell (i := 1) rfl
      have f0 := SB.res.fz 0
      have f1 := SB.res.fz 1
      have lr := SB.res.lt
      have HSB := Lib.hid SB
      have HTW := Lib.hid hT
      clear SB hr hT
      go_wp2
      go_region
      all_goals (try go_wp2)
      all_goals have R3 := (HSB.out.res.set 0 (.pointer (at0 (q false)))).set 1 (.pointer (at0 (q true)))
      all_goals refine bodyPost_ret (v := .tuple #[.pointer (at0 pp), .agg (duoCells (at0 (q false)) (at0 (q true)))]) (res_begin14 rfl rfl (by first | exact R3 | exact R3.below (Below.refl _ _).drew)) rfl ?_
      all_goals have F3 := (fr_one wr (w.heap.size + 1) 0 (.pointer (at0 (q false)))).trans (fr_one _ (w.heap.size + 1) 1 (.pointer (at0 (q true))))
      all_goals have T3 := HTW.out.keepA F3 (avoid_one HSB.out.res.hasT (by decide)) (avoid_one HSB.out.res.hasT (by decide))
      all_goals have B3 := below_set (below_set HSB.out.bel (p := ⟨w.heap.size + 1, 0, none⟩) (by simp) (.pointer (at0 (q false)))) (p := ⟨w.heap.size + 1, 1, none⟩) (by simp) (.pointer (at0 (q true)))
      all_goals first | exact ⟨pp, q, rfl, T3, B3⟩ | exact ⟨pp, q, rfl, T3.below (Below.refl _ _).drew, B3.drew⟩
end Go.Proofs.YtmloiifnadaaoaaGreat
/- The walk of fair (tegulalaw14). -/
namespace Go.Proofs.YtmloiifnadaaoaaGreat
open Go.RowKit
set_option linter.unusedVariables false
set_option linter.unusedSimpArgs false

def shortActs (l : List Act) : Bool := decide (∀ a ∈ l, a.bs.length ≤ 100)
def fair14 (g : Geo) (l0 l1 : List Flt) (la : List Act) : Bool := g.ok && decide (g.size ≤ 120 ∧ la.length ≤ 60 ∧ l0.length ≤ 20 ∧ l1.length ≤ 20) && shortActs la && fltValid l0 && fltValid l1
theorem fair14_ok {g : Geo} {l0 l1 : List Flt} {la : List Act} (h : fair14 g l0 l1 la = true) : g.ok = true ∧ g.size ≤ 120 ∧ la.length ≤ 60 ∧ l0.length ≤ 20 ∧ l1.length ≤ 20 ∧ (∀ a ∈ la, a.bs.length ≤ 100) ∧ fltValid l0 = true ∧ fltValid l1 = true := by
  unfold fair14 shortActs at h
  simp only [Bool.and_eq_true, decide_eq_true_eq] at h
  exact ⟨h.1.1.1.1, h.1.1.1.2.1, h.1.1.1.2.2.1, h.1.1.1.2.2.2.1, h.1.1.1.2.2.2.2, h.1.1.2, h.1.2, h.2⟩
theorem fair14_no1 {g : Geo} {l0 l1 : List Flt} {la : List Act} (h : ¬ (g.ok = true ∧ g.size ≤ 120 ∧ la.length ≤ 60 ∧ l0.length ≤ 20 ∧ l1.length ≤ 20 ∧ (∀ a ∈ la, a.bs.length ≤ 100) ∧ fltValid l0 = true ∧ fltValid l1 = true)) : fair14 g l0 l1 la = false := by
  cases hf : fair14 g l0 l1 la with
  | false => rfl
  | true => exact absurd (fair14_ok hf) h
theorem fair14_yes {g : Geo} {l0 l1 : List Flt} {la : List Act} (h1 : g.ok = true) (h2 : g.size ≤ 120) (h3 : la.length ≤ 60) (h4 : l0.length ≤ 20) (h5 : l1.length ≤ 20) (h6 : ∀ a ∈ la, a.bs.length ≤ 100) : fair14 g l0 l1 la = (fltValid l0 && fltValid l1) := by
  unfold fair14 shortActs
  rw [h1, decide_eq_true (⟨h2, h3, h4, h5⟩ : _ ∧ _), decide_eq_true h6]
  rfl

set_option maxHeartbeats 8000000 in
set_option maxRecDepth 1000000 in
theorem fair14_any (B : Nat) (r b t s o : Int) (A0 : Option Addr) (l0 : List Flt) (c0 : Nat) (A1 : Option Addr) (l1 : List Flt) (c1 : Nat) (A2 : Option Addr) (la : List Act) (c2 : Nat) (w : World) (hBw : B ≤ w.heap.size) (h0 : FltsRd w A0 l0) (h1 : FltsRd w A1 l1) (h2 : ActsB w B A2 la) (hl0 : l0.length * 24 ≤ 140737488351232) (hl1 : l1.length * 24 ≤ 140737488351232) (hla : la.length ≤ 140737488351232) :
    Calls Tryz.prog 5 #[.agg (caseCells r b t s o (.slice A0 l0.length c0) (.slice A1 l1.length c1) (.slice A2 la.length c2))] w fun e w' => e = .returned (.bool (fair14 (Geo.mk r b t s o) l0 l1 la)) ∧ Below w.heap.size w w' := by
  have H0 := Lib.hid h0
  have H1 := Lib.hid h1
  have H2 := Lib.hid h2
  have hm0 : l0.length ≤ 140737488351232 := by omega
  have hm1 : l1.length ≤ 140737488351232 := by omega
  clear h0 h1 h2
  cases hv : (Geo.mk r b t s o).ok with
  | false =>
    have e := fair14_no1 (g := Geo.mk r b t s o) (l0 := l0) (l1 := l1) (la := la) (by intro h; rw [hv] at h; cases h.1)
    rw [e]
    clear e
    go_enter Tryz.func5, Tryz.ntmps5
    go_wp2_with (first | (go_at_call 22; refine (rvalid_any _ _ _ _ _ _).mono ?_; rintro e w' ⟨rfl, hb⟩; rw [hv]; (first | ((first | have hB1 := below_of hb hB | have hB1 := below_of hb (Below.drew hB) | have hB1 := below_of hb (below_drw hB _)); clear hB hb hc hf hz; have hB := hB1; clear hB1; obtain ⟨hc, hf, hz⟩ := bcell hB) | ((first | have hB1 := below_of hb (below_alloc hB _) | have hB1 := below_of hb (below_alloc (below_alloc hB _) _) | have hB1 := below_of hb (below_alloc (below_alloc (below_alloc hB _) _) _) | have hB1 := below_of hb (below_alloc (below_alloc (below_alloc (below_alloc hB _) _) _) _) | have hB1 := below_of hb (below_alloc (below_alloc (below_alloc (below_alloc (below_alloc hB _) _) _) _) _) | have hB1 := below_of hb (Below.drew (below_alloc hB _)) | have hB1 := below_of hb (Below.drew (below_alloc (below_alloc hB _) _)) | have hB1 := below_of hb (Below.drew (below_alloc (below_alloc (below_alloc hB _) _) _)) | have hB1 := below_of hb (Below.drew (below_alloc (below_alloc (below_alloc (below_alloc hB _) _) _) _)) | have hB1 := below_of hb (Below.drew (below_alloc (below_alloc (below_alloc (below_alloc (below_alloc hB _) _) _) _) _)) | have hB1 := below_of hb (below_drw (below_alloc hB _) _) | have hB1 := below_of hb (below_drw (below_alloc (below_alloc hB _) _) _) | have hB1 := below_of hb (below_drw (below_alloc (below_alloc (below_alloc hB _) _) _) _) | have hB1 := below_of hb (below_drw (below_alloc (below_alloc (below_alloc (below_alloc hB _) _) _) _) _) | have hB1 := below_of hb (below_drw (below_alloc (below_alloc (below_alloc (below_alloc (below_alloc hB _) _) _) _) _) _)); clear hB hc hf hz; have hB := hB1; clear hB1; obtain ⟨hc, hf, hz⟩ := bcell hB; obtain ⟨hc_, hf_, hz_⟩ := bcell hb; clear hb) | (have hB := hb; clear hb; obtain ⟨hc, hf, hz⟩ := bcell hB))))
    go_ret
    exact ⟨rfl, (by repeat (first | (with_reducible exact Below.refl _ _) | (with_reducible refine Below.drew ?_) | (with_reducible refine below_drw ?_ _) | (with_reducible refine below_alloc ?_ _) | (with_reducible refine below_set ?_ (by simp <;> omega) _) | (refine below_of (by assumption) ?_)))⟩
  | true =>
    obtain ⟨z, hz⟩ : ∃ z, (Geo.mk r b t s o).size = z := ⟨_, rfl⟩
    by_cases q1 : 120 < z
    · have e := fair14_no1 (g := Geo.mk r b t s o) (l0 := l0) (l1 := l1) (la := la) (by intro h; have := h.2.1; omega)
      rw [e]
      have Hz := Lib.hid hz
      clear e hz
      go_enter Tryz.func5, Tryz.ntmps5
      go_wp2_with (first | (go_at_call 22; refine (rvalid_any _ _ _ _ _ _).mono ?_; rintro e w' ⟨rfl, hb⟩; rw [hv]; (first | ((first | have hB1 := below_of hb hB | have hB1 := below_of hb (Below.drew hB) | have hB1 := below_of hb (below_drw hB _)); clear hB hb hc hf hz; have hB := hB1; clear hB1; obtain ⟨hc, hf, hz⟩ := bcell hB) | ((first | have hB1 := below_of hb (below_alloc hB _) | have hB1 := below_of hb (below_alloc (below_alloc hB _) _) | have hB1 := below_of hb (below_alloc (below_alloc (below_alloc hB _) _) _) | have hB1 := below_of hb (below_alloc (below_alloc (below_alloc (below_alloc hB _) _) _) _) | have hB1 := below_of hb (below_alloc (below_alloc (below_alloc (below_alloc (below_alloc hB _) _) _) _) _) | have hB1 := below_of hb (Below.drew (below_alloc hB _)) | have hB1 := below_of hb (Below.drew (below_alloc (below_alloc hB _) _)) | have hB1 := below_of hb (Below.drew (below_alloc (below_alloc (below_alloc hB _) _) _)) | have hB1 := below_of hb (Below.drew (below_alloc (below_alloc (below_alloc (below_alloc hB _) _) _) _)) | have hB1 := below_of hb (Below.drew (below_alloc (below_alloc (below_alloc (below_alloc (below_alloc hB _) _) _) _) _)) | have hB1 := below_of hb (below_drw (below_alloc hB _) _) | have hB1 := below_of hb (below_drw (below_alloc (below_alloc hB _) _) _) | have hB1 := below_of hb (below_drw (below_alloc (below_alloc (below_alloc hB _) _) _) _) | have hB1 := below_of hb (below_drw (below_alloc (below_alloc (below_alloc (below_alloc hB _) _) _) _) _) | have hB1 := below_of hb (below_drw (below_alloc (below_alloc (below_alloc (below_alloc (below_alloc hB _) _) _) _) _) _)); clear hB hc hf hz; have hB := hB1; clear hB1; obtain ⟨hc, hf, hz⟩ := bcell hB; obtain ⟨hc_, hf_, hz_⟩ := bcell hb; clear hb) | (have hB := hb; clear hb; obtain ⟨hc, hf, hz⟩ := bcell hB))) | (go_at_call 23; refine (rsize_any _ _ _ _ _ _).mono ?_; rintro e w' ⟨rfl, hb⟩; rw [Hz.out]; (first | ((first | have hB1 := below_of hb hB | have hB1 := below_of hb (Below.drew hB) | have hB1 := below_of hb (below_drw hB _)); clear hB hb hc hf hz; have hB := hB1; clear hB1; obtain ⟨hc, hf, hz⟩ := bcell hB) | ((first | have hB1 := below_of hb (below_alloc hB _) | have hB1 := below_of hb (below_alloc (below_alloc hB _) _) | have hB1 := below_of hb (below_alloc (below_alloc (below_alloc hB _) _) _) | have hB1 := below_of hb (below_alloc (below_alloc (below_alloc (below_alloc hB _) _) _) _) | have hB1 := below_of hb (below_alloc (below_alloc (below_alloc (below_alloc (below_alloc hB _) _) _) _) _) | have hB1 := below_of hb (Below.drew (below_alloc hB _)) | have hB1 := below_of hb (Below.drew (below_alloc (below_alloc hB _) _)) | have hB1 := below_of hb (Below.drew (below_alloc (below_alloc (below_alloc hB _) _) _)) | have hB1 := below_of hb (Below.drew (below_alloc (below_alloc (below_alloc (below_alloc hB _) _) _) _)) | have hB1 := below_of hb (Below.drew (below_alloc (below_alloc (below_alloc (below_alloc (below_alloc hB _) _) _) _) _)) | have hB1 := below_of hb (below_drw (below_alloc hB _) _) | have hB1 := below_of hb (below_drw (below_alloc (below_alloc hB _) _) _) | have hB1 := below_of hb (below_drw (below_alloc (below_alloc (below_alloc hB _) _) _) _) | have hB1 := below_of hb (below_drw (below_alloc (below_alloc (below_alloc (below_alloc hB _) _) _) _) _) | have hB1 := below_of hb (below_drw (below_alloc (below_alloc (below_alloc (below_alloc (below_alloc hB _) _) _) _) _) _)); clear hB hc hf hz; have hB := hB1; clear hB1; obtain ⟨hc, hf, hz⟩ := bcell hB; obtain ⟨hc_, hf_, hz_⟩ := bcell hb; clear hb) | (have hB := hb; clear hb; obtain ⟨hc, hf, hz⟩ := bcell hB))))
      go_ret
      exact ⟨rfl, (by repeat (first | (with_reducible exact Below.refl _ _) | (with_reducible refine Below.drew ?_) | (with_reducible refine below_drw ?_ _) | (with_reducible refine below_alloc ?_ _) | (with_reducible refine below_set ?_ (by simp <;> omega) _) | (refine below_of (by assumption) ?_)))⟩
    by_cases q2 : 60 < la.length
    · have e := fair14_no1 (g := Geo.mk r b t s o) (l0 := l0) (l1 := l1) (la := la) (by intro h; have := h.2.2.1; omega)
      rw [e]
      have Hz := Lib.hid hz
      clear e hz
      go_enter Tryz.func5, Tryz.ntmps5
      go_wp2_with (first | (go_at_call 22; refine (rvalid_any _ _ _ _ _ _).mono ?_; rintro e w' ⟨rfl, hb⟩; rw [hv]; (first | ((first | have hB1 := below_of hb hB | have hB1 := below_of hb (Below.drew hB) | have hB1 := below_of hb (below_drw hB _)); clear hB hb hc hf hz; have hB := hB1; clear hB1; obtain ⟨hc, hf, hz⟩ := bcell hB) | ((first | have hB1 := below_of hb (below_alloc hB _) | have hB1 := below_of hb (below_alloc (below_alloc hB _) _) | have hB1 := below_of hb (below_alloc (below_alloc (below_alloc hB _) _) _) | have hB1 := below_of hb (below_alloc (below_alloc (below_alloc (below_alloc hB _) _) _) _) | have hB1 := below_of hb (below_alloc (below_alloc (below_alloc (below_alloc (below_alloc hB _) _) _) _) _) | have hB1 := below_of hb (Below.drew (below_alloc hB _)) | have hB1 := below_of hb (Below.drew (below_alloc (below_alloc hB _) _)) | have hB1 := below_of hb (Below.drew (below_alloc (below_alloc (below_alloc hB _) _) _)) | have hB1 := below_of hb (Below.drew (below_alloc (below_alloc (below_alloc (below_alloc hB _) _) _) _)) | have hB1 := below_of hb (Below.drew (below_alloc (below_alloc (below_alloc (below_alloc (below_alloc hB _) _) _) _) _)) | have hB1 := below_of hb (below_drw (below_alloc hB _) _) | have hB1 := below_of hb (below_drw (below_alloc (below_alloc hB _) _) _) | have hB1 := below_of hb (below_drw (below_alloc (below_alloc (below_alloc hB _) _) _) _) | have hB1 := below_of hb (below_drw (below_alloc (below_alloc (below_alloc (below_alloc hB _) _) _) _) _) | have hB1 := below_of hb (below_drw (below_alloc (below_alloc (below_alloc (below_alloc (below_alloc hB _) _) _) _) _) _)); clear hB hc hf hz; have hB := hB1; clear hB1; obtain ⟨hc, hf, hz⟩ := bcell hB; obtain ⟨hc_, hf_, hz_⟩ := bcell hb; clear hb) | (have hB := hb; clear hb; obtain ⟨hc, hf, hz⟩ := bcell hB))) | (go_at_call 23; refine (rsize_any _ _ _ _ _ _).mono ?_; rintro e w' ⟨rfl, hb⟩; rw [Hz.out]; (first | ((first | have hB1 := below_of hb hB | have hB1 := below_of hb (Below.drew hB) | have hB1 := below_of hb (below_drw hB _)); clear hB hb hc hf hz; have hB := hB1; clear hB1; obtain ⟨hc, hf, hz⟩ := bcell hB) | ((first | have hB1 := below_of hb (below_alloc hB _) | have hB1 := below_of hb (below_alloc (below_alloc hB _) _) | have hB1 := below_of hb (below_alloc (below_alloc (below_alloc hB _) _) _) | have hB1 := below_of hb (below_alloc (below_alloc (below_alloc (below_alloc hB _) _) _) _) | have hB1 := below_of hb (below_alloc (below_alloc (below_alloc (below_alloc (below_alloc hB _) _) _) _) _) | have hB1 := below_of hb (Below.drew (below_alloc hB _)) | have hB1 := below_of hb (Below.drew (below_alloc (below_alloc hB _) _)) | have hB1 := below_of hb (Below.drew (below_alloc (below_alloc (below_alloc hB _) _) _)) | have hB1 := below_of hb (Below.drew (below_alloc (below_alloc (below_alloc (below_alloc hB _) _) _) _)) | have hB1 := below_of hb (Below.drew (below_alloc (below_alloc (below_alloc (below_alloc (below_alloc hB _) _) _) _) _)) | have hB1 := below_of hb (below_drw (below_alloc hB _) _) | have hB1 := below_of hb (below_drw (below_alloc (below_alloc hB _) _) _) | have hB1 := below_of hb (below_drw (below_alloc (below_alloc (below_alloc hB _) _) _) _) | have hB1 := below_of hb (below_drw (below_alloc (below_alloc (below_alloc (below_alloc hB _) _) _) _) _) | have hB1 := below_of hb (below_drw (below_alloc (below_alloc (below_alloc (below_alloc (below_alloc hB _) _) _) _) _) _)); clear hB hc hf hz; have hB := hB1; clear hB1; obtain ⟨hc, hf, hz⟩ := bcell hB; obtain ⟨hc_, hf_, hz_⟩ := bcell hb; clear hb) | (have hB := hb; clear hb; obtain ⟨hc, hf, hz⟩ := bcell hB))))
      go_ret
      exact ⟨rfl, (by repeat (first | (with_reducible exact Below.refl _ _) | (with_reducible refine Below.drew ?_) | (with_reducible refine below_drw ?_ _) | (with_reducible refine below_alloc ?_ _) | (with_reducible refine below_set ?_ (by simp <;> omega) _) | (refine below_of (by assumption) ?_)))⟩
    by_cases q3 : 20 < l0.length
    · have e := fair14_no1 (g := Geo.mk r b t s o) (l0 := l0) (l1 := l1) (la := la) (by intro h; have := h.2.2.2.1; omega)
      rw [e]
      have Hz := Lib.hid hz
      clear e hz
      go_enter Tryz.func5, Tryz.ntmps5
      go_wp2_with (first | (go_at_call 22; refine (rvalid_any _ _ _ _ _ _).mono ?_; rintro e w' ⟨rfl, hb⟩; rw [hv]; (first | ((first | have hB1 := below_of hb hB | have hB1 := below_of hb (Below.drew hB) | have hB1 := below_of hb (below_drw hB _)); clear hB hb hc hf hz; have hB := hB1; clear hB1; obtain ⟨hc, hf, hz⟩ := bcell hB) | ((first | have hB1 := below_of hb (below_alloc hB _) | have hB1 := below_of hb (below_alloc (below_alloc hB _) _) | have hB1 := below_of hb (below_alloc (below_alloc (below_alloc hB _) _) _) | have hB1 := below_of hb (below_alloc (below_alloc (below_alloc (below_alloc hB _) _) _) _) | have hB1 := below_of hb (below_alloc (below_alloc (below_alloc (below_alloc (below_alloc hB _) _) _) _) _) | have hB1 := below_of hb (Below.drew (below_alloc hB _)) | have hB1 := below_of hb (Below.drew (below_alloc (below_alloc hB _) _)) | have hB1 := below_of hb (Below.drew (below_alloc (below_alloc (below_alloc hB _) _) _)) | have hB1 := below_of hb (Below.drew (below_alloc (below_alloc (below_alloc (below_alloc hB _) _) _) _)) | have hB1 := below_of hb (Below.drew (below_alloc (below_alloc (below_alloc (below_alloc (below_alloc hB _) _) _) _) _)) | have hB1 := below_of hb (below_drw (below_alloc hB _) _) | have hB1 := below_of hb (below_drw (below_alloc (below_alloc hB _) _) _) | have hB1 := below_of hb (below_drw (below_alloc (below_alloc (below_alloc hB _) _) _) _) | have hB1 := below_of hb (below_drw (below_alloc (below_alloc (below_alloc (below_alloc hB _) _) _) _) _) | have hB1 := below_of hb (below_drw (below_alloc (below_alloc (below_alloc (below_alloc (below_alloc hB _) _) _) _) _) _)); clear hB hc hf hz; have hB := hB1; clear hB1; obtain ⟨hc, hf, hz⟩ := bcell hB; obtain ⟨hc_, hf_, hz_⟩ := bcell hb; clear hb) | (have hB := hb; clear hb; obtain ⟨hc, hf, hz⟩ := bcell hB))) | (go_at_call 23; refine (rsize_any _ _ _ _ _ _).mono ?_; rintro e w' ⟨rfl, hb⟩; rw [Hz.out]; (first | ((first | have hB1 := below_of hb hB | have hB1 := below_of hb (Below.drew hB) | have hB1 := below_of hb (below_drw hB _)); clear hB hb hc hf hz; have hB := hB1; clear hB1; obtain ⟨hc, hf, hz⟩ := bcell hB) | ((first | have hB1 := below_of hb (below_alloc hB _) | have hB1 := below_of hb (below_alloc (below_alloc hB _) _) | have hB1 := below_of hb (below_alloc (below_alloc (below_alloc hB _) _) _) | have hB1 := below_of hb (below_alloc (below_alloc (below_alloc (below_alloc hB _) _) _) _) | have hB1 := below_of hb (below_alloc (below_alloc (below_alloc (below_alloc (below_alloc hB _) _) _) _) _) | have hB1 := below_of hb (Below.drew (below_alloc hB _)) | have hB1 := below_of hb (Below.drew (below_alloc (below_alloc hB _) _)) | have hB1 := below_of hb (Below.drew (below_alloc (below_alloc (below_alloc hB _) _) _)) | have hB1 := below_of hb (Below.drew (below_alloc (below_alloc (below_alloc (below_alloc hB _) _) _) _)) | have hB1 := below_of hb (Below.drew (below_alloc (below_alloc (below_alloc (below_alloc (below_alloc hB _) _) _) _) _)) | have hB1 := below_of hb (below_drw (below_alloc hB _) _) | have hB1 := below_of hb (below_drw (below_alloc (below_alloc hB _) _) _) | have hB1 := below_of hb (below_drw (below_alloc (below_alloc (below_alloc hB _) _) _) _) | have hB1 := below_of hb (below_drw (below_alloc (below_alloc (below_alloc (below_alloc hB _) _) _) _) _) | have hB1 := below_of hb (below_drw (below_alloc (below_alloc (below_alloc (below_alloc (below_alloc hB _) _) _) _) _) _)); clear hB hc hf hz; have hB := hB1; clear hB1; obtain ⟨hc, hf, hz⟩ := bcell hB; obtain ⟨hc_, hf_, hz_⟩ := bcell hb; clear hb) | (have hB := hb; clear hb; obtain ⟨hc, hf, hz⟩ := bcell hB))))
      go_ret
      exact ⟨rfl, (by repeat (first | (with_reducible exact Below.refl _ _) | (with_reducible refine Below.drew ?_) | (with_reducible refine below_drw ?_ _) | (with_reducible refine below_alloc ?_ _) | (with_reducible refine below_set ?_ (by simp <;> omega) _) | (refine below_of (by assumption) ?_)))⟩
    by_cases q4 : 20 < l1.length
    · have e := fair14_no1 (g := Geo.mk r b t s o) (l0 := l0) (l1 := l1) (la := la) (by intro h; have := h.2.2.2.2.1; omega)
      rw [e]
      have Hz := Lib.hid hz
      clear e hz
      go_enter Tryz.func5, Tryz.ntmps5
      go_wp2_with (first | (go_at_call 22; refine (rvalid_any _ _ _ _ _ _).mono ?_; rintro e w' ⟨rfl, hb⟩; rw [hv]; (first | ((first | have hB1 := below_of hb hB | have hB1 := below_of hb (Below.drew hB) | have hB1 := below_of hb (below_drw hB _)); clear hB hb hc hf hz; have hB := hB1; clear hB1; obtain ⟨hc, hf, hz⟩ := bcell hB) | ((first | have hB1 := below_of hb (below_alloc hB _) | have hB1 := below_of hb (below_alloc (below_alloc hB _) _) | have hB1 := below_of hb (below_alloc (below_alloc (below_alloc hB _) _) _) | have hB1 := below_of hb (below_alloc (below_alloc (below_alloc (below_alloc hB _) _) _) _) | have hB1 := below_of hb (below_alloc (below_alloc (below_alloc (below_alloc (below_alloc hB _) _) _) _) _) | have hB1 := below_of hb (Below.drew (below_alloc hB _)) | have hB1 := below_of hb (Below.drew (below_alloc (below_alloc hB _) _)) | have hB1 := below_of hb (Below.drew (below_alloc (below_alloc (below_alloc hB _) _) _)) | have hB1 := below_of hb (Below.drew (below_alloc (below_alloc (below_alloc (below_alloc hB _) _) _) _)) | have hB1 := below_of hb (Below.drew (below_alloc (below_alloc (below_alloc (below_alloc (below_alloc hB _) _) _) _) _)) | have hB1 := below_of hb (below_drw (below_alloc hB _) _) | have hB1 := below_of hb (below_drw (below_alloc (below_alloc hB _) _) _) | have hB1 := below_of hb (below_drw (below_alloc (below_alloc (below_alloc hB _) _) _) _) | have hB1 := below_of hb (below_drw (below_alloc (below_alloc (below_alloc (below_alloc hB _) _) _) _) _) | have hB1 := below_of hb (below_drw (below_alloc (below_alloc (below_alloc (below_alloc (below_alloc hB _) _) _) _) _) _)); clear hB hc hf hz; have hB := hB1; clear hB1; obtain ⟨hc, hf, hz⟩ := bcell hB; obtain ⟨hc_, hf_, hz_⟩ := bcell hb; clear hb) | (have hB := hb; clear hb; obtain ⟨hc, hf, hz⟩ := bcell hB))) | (go_at_call 23; refine (rsize_any _ _ _ _ _ _).mono ?_; rintro e w' ⟨rfl, hb⟩; rw [Hz.out]; (first | ((first | have hB1 := below_of hb hB | have hB1 := below_of hb (Below.drew hB) | have hB1 := below_of hb (below_drw hB _)); clear hB hb hc hf hz; have hB := hB1; clear hB1; obtain ⟨hc, hf, hz⟩ := bcell hB) | ((first | have hB1 := below_of hb (below_alloc hB _) | have hB1 := below_of hb (below_alloc (below_alloc hB _) _) | have hB1 := below_of hb (below_alloc (below_alloc (below_alloc hB _) _) _) | have hB1 := below_of hb (below_alloc (below_alloc (below_alloc (below_alloc hB _) _) _) _) | have hB1 := below_of hb (below_alloc (below_alloc (below_alloc (below_alloc (below_alloc hB _) _) _) _) _) | have hB1 := below_of hb (Below.drew (below_alloc hB _)) | have hB1 := below_of hb (Below.drew (below_alloc (below_alloc hB _) _)) | have hB1 := below_of hb (Below.drew (below_alloc (below_alloc (below_alloc hB _) _) _)) | have hB1 := below_of hb (Below.drew (below_alloc (below_alloc (below_alloc (below_alloc hB _) _) _) _)) | have hB1 := below_of hb (Below.drew (below_alloc (below_alloc (below_alloc (below_alloc (below_alloc hB _) _) _) _) _)) | have hB1 := below_of hb (below_drw (below_alloc hB _) _) | have hB1 := below_of hb (below_drw (below_alloc (below_alloc hB _) _) _) | have hB1 := below_of hb (below_drw (below_alloc (below_alloc (below_alloc hB _) _) _) _) | have hB1 := below_of hb (below_drw (below_alloc (below_alloc (below_alloc (below_alloc hB _) _) _) _) _) | have hB1 := below_of hb (below_drw (below_alloc (below_alloc (below_alloc (below_alloc (below_alloc hB _) _) _) _) _) _)); clear hB hc hf hz; have hB := hB1; clear hB1; obtain ⟨hc, hf, hz⟩ := bcell hB; obtain ⟨hc_, hf_, hz_⟩ := bcell hb; clear hb) | (have hB := hb; clear hb; obtain ⟨hc, hf, hz⟩ := bcell hB))))
      go_ret
      exact ⟨rfl, (by repeat (first | (with_reducible exact Below.refl _ _) | (with_reducible refine Below.drew ?_) | (with_reducible refine below_drw ?_ _) | (with_reducible refine below_alloc ?_ _) | (with_reducible refine below_set ?_ (by simp <;> omega) _) | (refine below_of (by assumption) ?_)))⟩
    have FY := Lib.hid (fun h6 => fair14_yes (g := Geo.mk r b t s o) (l0 := l0) (l1 := l1) (la := la) hv (by omega) (by omega) (by omega) (by omega) h6)
    have FN := Lib.hid (fun (h6 : ¬ ∀ a ∈ la, a.bs.length ≤ 100) => fair14_no1 (g := Geo.mk r b t s o) (l0 := l0) (l1 := l1) (la := la) (fun h => h6 h.2.2.2.2.2.1))
    have Hz := Lib.hid hz
    clear hz
    have bx : Row 28 w.heap.size (caseCells r b t s o (.slice A0 l0.length c0) (.slice A1 l1.length c1) (.slice A2 la.length c2)) (w.alloc (.cells (caseCells r b t s o (.slice A0 l0.length c0) (.slice A1 l1.length c1) (.slice A2 la.length c2)) 28)) := Row.new _ _ _
    have BX := Lib.hid bx
    clear bx
    go_enter Tryz.func5, Tryz.ntmps5
    go_wp2_with (first | (go_at_call 22; refine (rvalid_any _ _ _ _ _ _).mono ?_; rintro e w' ⟨rfl, hb⟩; rw [hv]; (first | ((first | have hB1 := below_of hb hB | have hB1 := below_of hb (Below.drew hB) | have hB1 := below_of hb (below_drw hB _)); clear hB hb hc hf hz; have hB := hB1; clear hB1; obtain ⟨hc, hf, hz⟩ := bcell hB) | ((first | have hB1 := below_of hb (below_alloc hB _) | have hB1 := below_of hb (below_alloc (below_alloc hB _) _) | have hB1 := below_of hb (below_alloc (below_alloc (below_alloc hB _) _) _) | have hB1 := below_of hb (below_alloc (below_alloc (below_alloc (below_alloc hB _) _) _) _) | have hB1 := below_of hb (below_alloc (below_alloc (below_alloc (below_alloc (below_alloc hB _) _) _) _) _) | have hB1 := below_of hb (Below.drew (below_alloc hB _)) | have hB1 := below_of hb (Below.drew (below_alloc (below_alloc hB _) _)) | have hB1 := below_of hb (Below.drew (below_alloc (below_alloc (below_alloc hB _) _) _)) | have hB1 := below_of hb (Below.drew (below_alloc (below_alloc (below_alloc (below_alloc hB _) _) _) _)) | have hB1 := below_of hb (Below.drew (below_alloc (below_alloc (below_alloc (below_alloc (below_alloc hB _) _) _) _) _)) | have hB1 := below_of hb (below_drw (below_alloc hB _) _) | have hB1 := below_of hb (below_drw (below_alloc (below_alloc hB _) _) _) | have hB1 := below_of hb (below_drw (below_alloc (below_alloc (below_alloc hB _) _) _) _) | have hB1 := below_of hb (below_drw (below_alloc (below_alloc (below_alloc (below_alloc hB _) _) _) _) _) | have hB1 := below_of hb (below_drw (below_alloc (below_alloc (below_alloc (below_alloc (below_alloc hB _) _) _) _) _) _)); clear hB hc hf hz; have hB := hB1; clear hB1; obtain ⟨hc, hf, hz⟩ := bcell hB; obtain ⟨hc_, hf_, hz_⟩ := bcell hb; clear hb) | (have hB := hb; clear hb; obtain ⟨hc, hf, hz⟩ := bcell hB))) | (go_at_call 23; refine (rsize_any _ _ _ _ _ _).mono ?_; rintro e w' ⟨rfl, hb⟩; rw [Hz.out]; (first | ((first | have hB1 := below_of hb hB | have hB1 := below_of hb (Below.drew hB) | have hB1 := below_of hb (below_drw hB _)); clear hB hb hc hf hz; have hB := hB1; clear hB1; obtain ⟨hc, hf, hz⟩ := bcell hB) | ((first | have hB1 := below_of hb (below_alloc hB _) | have hB1 := below_of hb (below_alloc (below_alloc hB _) _) | have hB1 := below_of hb (below_alloc (below_alloc (below_alloc hB _) _) _) | have hB1 := below_of hb (below_alloc (below_alloc (below_alloc (below_alloc hB _) _) _) _) | have hB1 := below_of hb (below_alloc (below_alloc (below_alloc (below_alloc (below_alloc hB _) _) _) _) _) | have hB1 := below_of hb (Below.drew (below_alloc hB _)) | have hB1 := below_of hb (Below.drew (below_alloc (below_alloc hB _) _)) | have hB1 := below_of hb (Below.drew (below_alloc (below_alloc (below_alloc hB _) _) _)) | have hB1 := below_of hb (Below.drew (below_alloc (below_alloc (below_alloc (below_alloc hB _) _) _) _)) | have hB1 := below_of hb (Below.drew (below_alloc (below_alloc (below_alloc (below_alloc (below_alloc hB _) _) _) _) _)) | have hB1 := below_of hb (below_drw (below_alloc hB _) _) | have hB1 := below_of hb (below_drw (below_alloc (below_alloc hB _) _) _) | have hB1 := below_of hb (below_drw (below_alloc (below_alloc (below_alloc hB _) _) _) _) | have hB1 := below_of hb (below_drw (below_alloc (below_alloc (below_alloc (below_alloc hB _) _) _) _) _) | have hB1 := below_of hb (below_drw (below_alloc (below_alloc (below_alloc (below_alloc (below_alloc hB _) _) _) _) _) _)); clear hB hc hf hz; have hB := hB1; clear hB1; obtain ⟨hc, hf, hz⟩ := bcell hB; obtain ⟨hc_, hf_, hz_⟩ := bcell hb; clear hb) | (have hB := hb; clear hb; obtain ⟨hc, hf, hz⟩ := bcell hB))))
    have HB := Lib.hid (show Below w.heap.size w w' from (by repeat (first | (with_reducible exact Below.refl _ _) | (with_reducible refine Below.drew ?_) | (with_reducible refine below_drw ?_ _) | (with_reducible refine below_alloc ?_ _) | (with_reducible refine below_set ?_ (by simp <;> omega) _) | (refine below_of (by assumption) ?_))))
    have RX := BX.out.below hB
    have y5 := RX.cell (i := 5) rfl
    have y6 := RX.cell (i := 6) rfl
    have y7 := RX.cell (i := 7) rfl
    have lx := RX.lt
    have HRX := Lib.hid RX
    clear hB hc hf hz RX
    go_loop [3] (fun i => ∃ j : Nat, j ≤ la.length ∧ i = .int .i64 j ∧ ∀ a ∈ la.take j, a.bs.length ≤ 100) (fun i => la.length - (intOf i).toNat)
    case atStart => exact ⟨0, Nat.zero_le _, rfl, by simp⟩
    case round =>
      obtain ⟨j, hj, rfl, hall⟩ := hrel
      have Hall := Lib.hid hall
      clear hall
      by_cases hjn : j < la.length
      · have ho : la[j]? = some la[j] := List.getElem?_eq_getElem hjn
        have htk : la.take (j + 1) = la.take j ++ [la[j]] := List.take_succ_eq_append_getElem hjn
        have hmem : la[j] ∈ la := List.getElem_mem hjn
        generalize la[j] = a at *
        have hc : ∃ g off A' c', A2 = some ⟨g, off, none⟩ ∧ w'.cell? ⟨g, off + j * 6 + 4, none⟩ = some (.slice A' a.bs.length c') := by
          rcases H2.out.below (HB.out.mono hBw) with h1 | ⟨g, off, h1, h2, h3⟩
          · rw [h1] at hjn; simp at hjn
          · obtain ⟨A', c', _, _, _, _, h4, _⟩ := h3 j a ho
            exact ⟨g, off, A', c', h1, h4⟩
        obtain ⟨g, off, A', c', rfl, hc⟩ := hc
        have Htk := Lib.hid htk
        have Hmem := Lib.hid hmem
        clear htk ho hmem
        by_cases h100 : 100 < a.bs.length
        · go_wp2
          go_ret
          exact ⟨by rw [FN.out (fun hh => by have := hh a Hmem.out; omega)] <;> rfl, HB.out⟩
        · go_wp2
          go_round
          case rel =>
            refine ⟨j + 1, by omega, by go_num, ?_⟩
            rw [Htk.out]
            intro x hx
            rcases List.mem_append.1 hx with h1 | h1
            · exact Hall.out x h1
            · simp at h1; subst h1; omega
          case measure => simp [intOf]; omega
      · have e2 : ∀ a ∈ la, a.bs.length ≤ 100 := by
          have := Hall.out
          rw [List.take_of_length_le (by omega)] at this
          exact this
        have E2 := Lib.hid (FY.out e2)
        clear e2
        cases hf0 : fltValid l0 with
        | false =>
          have F0 := Lib.hid hf0
          clear hf0
          go_wp2_with (go_at_call 24; refine (rfvalid_any A0 l0 c0 _ (H0.out.below HB.out) hm0).mono ?_; rintro e w2 ⟨rfl, hb⟩; rw [F0.out]; have HB2 := Lib.hid (below_of hb HB.out); clear hb)
          go_ret
          exact ⟨by rw [E2.out, F0.out] <;> rfl, HB2.out⟩
        | true =>
          have F0 := Lib.hid hf0
          clear hf0
          go_wp2_with (first | (go_at_call 24; refine (rfvalid_any A0 l0 c0 _ (H0.out.below HB.out) hm0).mono ?_; rintro e w2 ⟨rfl, hb⟩; rw [F0.out]; have z6 := cell_later hb y6; have HB2 := Lib.hid (below_of hb HB.out); clear hb H0) | (go_at_call 24; refine (rfvalid_any A1 l1 c1 _ (H1.out.below HB2.out) hm1).mono ?_; rintro e w3 ⟨rfl, hb⟩; have HB3 := Lib.hid (below_of hb HB2.out); clear hb))
          all_goals go_ret
          all_goals exact ⟨by rw [E2.out, F0.out] <;> rfl, HB3.out⟩
end Go.Proofs.YtmloiifnadaaoaaGreat
/- The walk of only (tegulalaw14). -/
namespace Go.Proofs.YtmloiifnadaaoaaGreat
open Go.RowKit
set_option linter.unusedVariables false
set_option linter.unusedSimpArgs false

theorem Tryz.info_acts : (Tryz.prog.info? 55).map (fun i => (i.zero, i.size, i.bytes)) = some (some (.agg #[.int .u8 0, .int .u8 0, .int .u64 0, .int .i64 0, .slice none 0 0, .bool false]), 6, 56) := by kernel_rfl
abbrev actVals (a : Act) (A : Option Addr) (c : Nat) : List Value := [.int .u8 (a.disk.toNat : Int), .int .u8 (a.kind.toNat : Int), .int .u64 a.key, .int .i64 a.at_, .slice A a.bs.length c, .bool a.force]
/-- The cells of a list of acts, their bytes below block B. -/
def ActXB (w : World) (B : Nat) (xs : List Value) (l : List Act) : Prop :=
  ∀ (i : Nat) (a : Act), l[i]? = some a → ∃ A c, (∀ k, k < 6 → xs[i * 6 + k]? = (actVals a A c)[k]?) ∧ BytesB w B A a.bs ∧ a.bs.length ≤ c
theorem ActXB.below {w w' : World} {B : Nat} {xs : List Value} {l : List Act} (h : ActXB w B xs l) (hb : Below B w w') : ActXB w' B xs l := fun i o ho => by
  obtain ⟨A, c, h1, h2, h3⟩ := h i o ho
  exact ⟨A, c, h1, h2.below hb, h3⟩
theorem ActXB.snoc {w : World} {B : Nat} {xs : List Value} {l : List Act} (h : ActXB w B xs l) (hx : xs.length = l.length * 6) {a : Act} {A : Option Addr} {c : Nat} (hb : BytesB w B A a.bs) (hc : a.bs.length ≤ c) : ActXB w B (xs ++ actVals a A c) (l ++ [a]) := by
  intro i y hy
  have hlt := (List.getElem?_eq_some_iff.1 hy).1
  simp at hlt
  by_cases e : i < l.length
  · rw [List.getElem?_append_left e] at hy
    obtain ⟨A', c', h1, h2, h3⟩ := h i y hy
    exact ⟨A', c', fun k hk => by rw [List.getElem?_append_left (by omega)]; exact h1 k hk, h2, h3⟩
  · have : i = l.length := by omega
    subst this
    simp at hy
    subst hy
    refine ⟨A, c, fun k hk => ?_, hb, hc⟩
    rw [List.getElem?_append_right (by omega), show l.length * 6 + k - xs.length = k by omega]
/-- A row of acts of the call's own. -/
def ActRow (w : World) (B base : Nat) (v : Value) (l : List Act) : Prop := ∃ xs, w.ownsRow base 55 6 v l.length xs ∧ ActXB w B xs l
def OnlyIs (la : List Act) (w : World) (e : Ending) (w' : World) : Prop := ∃ v, e = .returned v ∧ ActRow w' w.heap.size w.heap.size v la ∧ Below w.heap.size w w'
def Only2Is (B : Nat) (la : List Act) (w : World) (e : Ending) (w' : World) : Prop := ∃ v, e = .returned v ∧ ActRow w' B w.heap.size v la ∧ Below w.heap.size w w'

set_option maxHeartbeats 8000000 in
set_option maxRecDepth 1000000 in
theorem only14_any (B : Nat) (A2 : Option Addr) (la : List Act) (c2 : Nat) (w : World) (hBw : B ≤ w.heap.size) (h2 : ActsB w B A2 la) (hla : la.length ≤ 1000000) :
    Calls Tryz.prog 9 #[.slice A2 la.length c2] w (Only2Is B (only la) w) := by
  have H2 := Lib.hid h2
  obtain ⟨i1, hinf1, hz01, hz11, hz21⟩ := info_parts Tryz.info_acts
  clear h2
  go_enter Tryz.func9, Tryz.ntmps9
  go_wp2_with fail
  go_loopw [3, 4] (fun v i wr => ∃ j : Nat, j ≤ la.length ∧ i = .int .i64 j ∧ ActRow wr B w.heap.size v (only (la.take j)) ∧ Below w.heap.size w wr) (fun _ i _ => la.length - (intOf i).toNat)
  case atStart => exact ⟨0, Nat.zero_le _, rfl, ⟨[], World.ownsRow_nil _ _ _ _, fun i o ho => by simp [only] at ho⟩, Below.refl _ _⟩
  case round =>
    obtain ⟨j, hj, rfl, ⟨xs, hrow, hxs⟩, hb⟩ := hrel
    have hsz := hb.size
    by_cases hjn : j < la.length
    · have ho : la[j]? = some la[j] := List.getElem?_eq_getElem hjn
      have htk : la.take (j + 1) = la.take j ++ [la[j]] := List.take_succ_eq_append_getElem hjn
      generalize la[j] = a at *
      have hsum : only (la.take (j + 1)) = if a.op then only (la.take j) ++ [{ a with key := 0 }] else only (la.take j) := by rw [htk, only_snoc]
      have hpl : (only (la.take j)).length ≤ 1000000 := Nat.le_trans (only_len _) (by rw [List.length_take]; omega)
      generalize only (la.take j) = pl at *
      have hc : ∃ g off A' c', A2 = some ⟨g, off, none⟩ ∧ g < B ∧ wr.cell? ⟨g, off + j * 6, none⟩ = some (.int .u8 (a.disk.toNat : Int)) ∧ wr.cell? ⟨g, off + j * 6 + 1, none⟩ = some (.int .u8 (a.kind.toNat : Int)) ∧ wr.cell? ⟨g, off + j * 6 + 2, none⟩ = some (.int .u64 a.key) ∧ wr.cell? ⟨g, off + j * 6 + 3, none⟩ = some (.int .i64 a.at_) ∧ wr.cell? ⟨g, off + j * 6 + 4, none⟩ = some (.slice A' a.bs.length c') ∧ wr.cell? ⟨g, off + j * 6 + 5, none⟩ = some (.bool a.force) ∧ BytesB wr B A' a.bs ∧ a.bs.length ≤ c' := by
        rcases H2.out.below (hb.mono hBw) with h1 | ⟨g, off, h1, h2, h3⟩
        · rw [h1] at hjn; simp at hjn
        · obtain ⟨A', c', k0, k1, k2, k3, k4, k5, k6, k7⟩ := h3 j a ho
          exact ⟨g, off, A', c', h1, h2, k0, k1, k2, k3, k4, k5, k6, k7⟩
      obtain ⟨g, off, A', c', rfl, hg, k0, k1, k2, k3, k4, k5, hby, hcap⟩ := hc
      obtain ⟨A8, c8, rfl⟩ := owns_slice hrow
      have Hs := Lib.hid hsum
      have Hrow := Lib.hid hrow
      have Hxs := Lib.hid hxs
      have HB := Lib.hid hb
      have Hby := Lib.hid hby
      clear hsum htk ho hrow hxs hb hby
      by_cases hk : a.kind.toNat ≤ 3
      · have hop : a.op = true := by unfold Act.op; simpa using hk
        have HO := Lib.hid hop
        have hki : (a.kind.toNat : Int) ≤ 3 := by omega
        clear hop
        go_wp2_with (at_builtin; refine wpList_append_own _ rfl _ _ 26 rfl w.heap.size 55 i1 _ 6 56 Tryz.underlying26 hinf1 hz01 hz11 hz21 rfl (by decide) _ _ _ rfl ((Hrow.out.alloc _).alloc _) ⟨wr.heap.size + 1, 0, none⟩ 1 1 (actVals { a with key := 0 } A' c') rfl rfl (cells_new' _ _ _ _ (by simp)) ?c2 ?c3 ?c4 ?c5 ?_)
        case c2 => intro u hu; simp [actVals] at hu; rcases hu with rfl | rfl | rfl | rfl | rfl | rfl <;> rfl
        case c3 => unfold maxLen; omega
        case c4 => omega
        case c5 => simp; omega
        intro v' w2 hown hgrow _
        obtain ⟨A7, c7, rfl⟩ := owns_slice hown
        have hbb : Below w.heap.size wr w2 := Below.grown (by repeat (first | (with_reducible exact Below.refl _ _) | (with_reducible refine Below.alloc ?_ (by first | omega | (simp; omega)) _))) hgrow (by simp; omega) (fun k hk => (owns_own Hrow.out k hk).1)
        have HX2 := Lib.hid ((Hxs.out.below (hbb.mono hBw)).snoc (c := c') Hrow.out.1 (a := { a with key := 0 }) (Hby.out.below (hbb.mono hBw)) hcap)
        have HB2 := Lib.hid (HB.out.trans hbb)
        have Hown := Lib.hid hown
        clear hown hgrow hbb
        go_wp2_with fail
        go_roundw
        case rel => exact ⟨j + 1, by omega, by go_num, by rw [Hs.out, if_pos HO.out]; exact ⟨_, by rw [List.length_append]; exact Hown.out, HX2.out⟩, HB2.out⟩
        case measure => simp [intOf]; omega
      · have hop : a.op = false := by unfold Act.op; simpa using hk
        have HO := Lib.hid hop
        have hki : 3 < (a.kind.toNat : Int) := by omega
        clear hop
        go_wp2_with fail
        go_roundw
        case rel => exact ⟨j + 1, by omega, by go_num, by rw [Hs.out, if_neg (by rw [HO.out]; decide)]; exact ⟨_, Hrow.out, Hxs.out⟩, HB.out⟩
        case measure => simp [intOf]; omega
    · have htk : la.take j = la := List.take_of_length_le (by omega)
      rw [htk] at hrow hxs
      have Hrow := Lib.hid hrow
      have Hxs := Lib.hid hxs
      have HB := Lib.hid hb
      clear hrow hxs hb htk
      go_wp2_with fail
      go_ret
      exact ⟨_, rfl, ⟨_, Hrow.out, Hxs.out⟩, HB.out⟩
end Go.Proofs.YtmloiifnadaaoaaGreat
