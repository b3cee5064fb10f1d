/- The walk of awake (tegulalaw14); the law DiskNil. -/
import Derived.Test.YtmloiifnadaaoaaGreatDskC3
import Derived.Test.YtmloiifnadaaoaaGreatDskC4
import Derived.Test.YtmloiifnadaaoaaGreatDskC
namespace Go.Proofs.YtmloiifnadaaoaaGreat
open Go.RowKit
set_option linter.unusedVariables false
set_option linter.unusedSimpArgs false

def ex14 : Geo := ⟨2, 1, 1, 1, 0⟩
def exO0 : Dsk := Dsk.new ex14 [⟨1, 1, 0⟩] Pow.new
def exO1 : Out := exO0.writeO_ Pow.new 0 0 [120] false
def exO2 : Out := exO1.d.writeO_ exO1.p 0 0 [121] false
def exO3 : Out := exO2.d.readO exO2.p 0 0
def exO5 : Out := exO3.d.readO (exO3.p.arm 1) 0 0
def exO6 : Out := exO5.d.readO exO5.p 0 0
theorem example14_0 : exO1.e = 0 ∧ exO2.e = 0 ∧ exO3.e = 0 ∧ exO2.d.readBs exO2.p 0 0 = [120] ∧ exO5.e = 0 ∧ exO6.e = 13 ∧ exO6.p.off = true ∧ exO1.d.c.l.length = 1 ∧ exO2.d.c.l.length = 1 ∧ exO1.d.fl.length = 1 ∧ exO2.d.fl.length = 1 ∧ exO3.d.fl.length = 1 ∧ exO5.d.fl.length = 1 := by
  refine ⟨?_, ?_, ?_, ?_, ?_, ?_, ?_, ?_, ?_, ?_, ?_, ?_, ?_⟩ <;> decide +kernel
theorem example14 : ∃ (d0 : Dsk) (o1 o2 o3 o5 o6 : Out) (p4 : Pow), Dsk.new ex14 [⟨1, 1, 0⟩] Pow.new = d0 ∧ d0.writeO_ Pow.new 0 0 [120] false = o1 ∧ o1.d.writeO_ o1.p 0 0 [121] false = o2 ∧ o2.d.readO o2.p 0 0 = o3 ∧ o3.p.arm 1 = p4 ∧ o3.d.readO p4 0 0 = o5 ∧ o5.d.readO o5.p 0 0 = o6 ∧
    o1.e = 0 ∧ o2.e = 0 ∧ o3.e = 0 ∧ o2.d.readBs o2.p 0 0 = [120] ∧ o5.e = 0 ∧ o6.e = 13 ∧ o6.p.off = true ∧ d0.c.l.length = 0 ∧ d0.fl.length = 1 ∧ o1.d.c.l.length = 1 ∧ o2.d.c.l.length = 1 ∧ o1.d.fl.length = 1 ∧ o2.d.fl.length = 1 ∧ o3.d.fl.length = 1 ∧ o5.d.fl.length = 1 := by
  obtain ⟨h1, h2, h3, h4, h5, h6, h7, h8, h9, h10, h11, h12, h13⟩ := example14_0
  exact ⟨exO0, exO1, exO2, exO3, exO5, exO6, exO3.p.arm 1, rfl, rfl, rfl, rfl, rfl, rfl, rfl, h1, h2, h3, h4, h5, h6, h7, rfl, rfl, h8, h9, h10, h11, h12, h13⟩

theorem belowG {Ts : List TypeId} {w W W' : World} (h : Below w.heap.size w W) (hF : FrG (fun k => w.heap.size ≤ k) Ts W W') : Below w.heap.size w W' := h.trans (hF.below h.size (fun k hk => hk))
theorem belowP {p : Nat} {w W W' : World} (h : Below w.heap.size w W) (hF : Fr (· = p) W W') (hp : w.heap.size ≤ p) : Below w.heap.size w W' := h.trans (hF.below_ne h.size hp)
theorem bytesT_one' (w : World) (x : UInt8) (n : Int) (hn : n = (x.toNat : Int)) (fr : Nat × Nat) : BytesT (w.alloc (.cells #[.int .u8 n] 5 fr)) (some ⟨w.heap.size, 0, none⟩) [x] := by
  subst hn
  refine .inr ⟨w.heap.size, 0, rfl, ⟨_, _, heap_alloc_new w _⟩, fun i y hy => ?_⟩
  cases i with
  | zero => obtain rfl := Option.some.inj hy; rw [World.cell?_alloc_mark]; rfl
  | succ i => simp at hy
theorem BytesT.frG {G : Nat → Prop} {Ts : List TypeId} {w w' : World} {A : Option Addr} {l : List UInt8} (h : BytesT w A l) (hF : FrG G Ts w w') (hn : Ts.all (fun T => ![5].contains T) = true) : BytesT w' A l :=
  h.keep hF (fun k hk hh => avoid_TG (Us := [5]) hn k _ hk (by simp) hh)
theorem BytesT.frP {G : Nat → Prop} {pp : Nat} {P : Pow} {w w' : World} {A : Option Addr} {l : List UInt8} (h : BytesT w A l) (hp : IsPow w G pp P) (hF : Fr (· = pp) w w') : BytesT w' A l :=
  h.keep hF (fun k hk hh => by subst hk; exact hp.hasP.ne hh (by decide) rfl)
theorem flts_one {w : World} {b : Nat} {f : Flt} (h0 : w.cell? ⟨b, 0, none⟩ = some (.int .i64 f.at_)) (h1 : w.cell? ⟨b, 1, none⟩ = some (.int .i64 f.kind)) (h2 : w.cell? ⟨b, 2, none⟩ = some (.int .i64 f.to)) : FltsRd w (some ⟨b, 0, none⟩) [f] := by
  refine .inr ⟨b, 0, rfl, World.block_lt_of_cell? _ _ h0, fun i y hy => ?_⟩
  cases i with
  | zero => obtain rfl := Option.some.inj hy; exact ⟨h0, h1, h2⟩
  | succ i => simp at hy

theorem flts_new (w : World) (f : Flt) (g : Nat) (hg : g = w.heap.size) : FltsRd (w.alloc (.cells #[.int .i64 f.at_, .int .i64 f.kind, .int .i64 f.to] 64)) (some ⟨g, 0, none⟩) [f] := by
  subst hg
  exact flts_one (by rw [World.cell?_alloc_mark]; rfl) (by rw [World.cell?_alloc_mark]; rfl) (by rw [World.cell?_alloc_mark]; rfl)
set_option maxHeartbeats 8000000 in
set_option maxRecDepth 1000000 in
theorem awake14_any (w : World) : Calls Tryz.prog 4 #[] w fun e w' => e = .returned (.bool true) ∧ Below w.heap.size w w' := by
  obtain ⟨d0, o1, o2, o3, o5, o6, p4, y0, y1, y2, y3, y4, y5, y6, x1, x2, x3, x4, x5, x6, x7, z0, z1, z2, z3, z4, z5, z6, z7⟩ := example14
  have Y0 := Lib.hid y0
  have Y1 := Lib.hid y1
  have Y2 := Lib.hid y2
  have Y3 := Lib.hid y3
  have Y4 := Lib.hid y4
  have Y5 := Lib.hid y5
  have Y6 := Lib.hid y6
  have Z0 := Lib.hid z0
  have Z1 := Lib.hid z1
  have Z2 := Lib.hid z2
  have Z3 := Lib.hid z3
  have Z4 := Lib.hid z4
  have Z5 := Lib.hid z5
  have Z6 := Lib.hid z6
  have Z7 := Lib.hid z7
  clear y0 y1 y2 y3 y4 y5 y6 z0 z1 z2 z3 z4 z5 z6 z7
  have kc := fun (w : World) (C : Array Value) (n c : Nat) => Lib.run_convert_bytes_const (P := Tryz.prog) w 53 5 C n c Tryz.underlying53 Tryz.underlying5
  go_enter Tryz.func4, Tryz.ntmps4
  go_wp2_with (first | (go_at_call 16; refine (dnewPower_any _).mono ?_; rintro e w1 ⟨pp, rfl, hpp, hP, hb⟩; have P1 := Lib.hid hP; have E1 := Lib.hid hb; have lpp := hP.hasP.lt; clear hP hb) | (go_at_call 17; refine (dnew_yes 2 1 1 1 0 _ [⟨1, 1, 0⟩] 1 (fun k => w.heap.size ≤ k) pp Pow.new _ (by decide) (by decide) (flts_new _ ⟨1, 1, 0⟩ _ (by simp)) (by decide) (P1.out.below (by repeat (first | (with_reducible exact Below.refl _ _) | (with_reducible refine Below.drew ?_) | (with_reducible refine below_drw ?_ _) | (with_reducible refine below_alloc ?_ _) | (with_reducible refine below_set ?_ (by simp <;> omega) _) | (refine below_of (by assumption) ?_))))).mono ?_; rintro e w2 ⟨hb, pd, rfl, hD⟩; rw [show Dsk.new ⟨2, 1, 1, 1, 0⟩ [⟨1, 1, 0⟩] Pow.new = d0 from Y0.out] at hD; have hb0 : Below w1.heap.size w1 w2 := below_of hb (by repeat (first | (with_reducible exact Below.refl _ _) | (with_reducible refine Below.drew ?_) | (with_reducible refine below_drw ?_ _) | (with_reducible refine below_alloc ?_ _) | (with_reducible refine below_set ?_ (by simp <;> omega) _) | (refine below_of (by assumption) ?_))); have E2 := Lib.hid (below_of hb0 E1.out); have P2 := Lib.hid (P1.out.below hb0); have D2 := Lib.hid (hD.mono (H := fun k => w.heap.size ≤ k) (fun k _ hk => by have h8 := E1.out.size; simp at hk; omega)); clear hb hb0 hD P1) | (go_at_call 18; refine (dwrite_any 0 0 _ [120] 1 false _ (D2.out.below (by repeat (first | (with_reducible exact Below.refl _ _) | (with_reducible refine Below.drew ?_) | (with_reducible refine below_drw ?_ _) | (with_reducible refine below_alloc ?_ _) | (with_reducible refine below_set ?_ (by simp <;> omega) _) | (refine below_of (by assumption) ?_)))) (P2.out.below (by repeat (first | (with_reducible exact Below.refl _ _) | (with_reducible refine Below.drew ?_) | (with_reducible refine below_drw ?_ _) | (with_reducible refine below_alloc ?_ _) | (with_reducible refine below_set ?_ (by simp <;> omega) _) | (refine below_of (by assumption) ?_)))) (fun k hk => by have h8 := E2.out.size; simp at hk; omega) (by rw [Z1.out]; decide) (by rw [Z0.out]; decide) (fun w' hF => ((bytesT_one' w2 120 120 rfl (1, 2)).frG hF (by decide)).rd) (by decide) (by decide)).mono ?_; rintro e w3 ⟨rfl, hD, hP, hF⟩; rw [Y1.out] at hD hP ⊢; rw [x1]; have D3 := Lib.hid hD; have P3 := Lib.hid hP; have E3 := Lib.hid (belowG (below_alloc E2.out _) hF); clear D2 P2 hD hP hF) | (go_at_call 18; refine (dwrite_any 0 0 _ [121] 1 false _ (D3.out.below (by repeat (first | (with_reducible exact Below.refl _ _) | (with_reducible refine Below.drew ?_) | (with_reducible refine below_drw ?_ _) | (with_reducible refine below_alloc ?_ _) | (with_reducible refine below_set ?_ (by simp <;> omega) _) | (refine below_of (by assumption) ?_)))) (P3.out.below (by repeat (first | (with_reducible exact Below.refl _ _) | (with_reducible refine Below.drew ?_) | (with_reducible refine below_drw ?_ _) | (with_reducible refine below_alloc ?_ _) | (with_reducible refine below_set ?_ (by simp <;> omega) _) | (refine below_of (by assumption) ?_)))) (fun k hk => by have h8 := E3.out.size; simp at hk; omega) (by rw [Z4.out]; decide) (by rw [Z2.out]; decide) (fun w' hF => ((bytesT_one' w3 121 121 rfl (1, 2)).frG hF (by decide)).rd) (by decide) (by decide)).mono ?_; rintro e w4 ⟨rfl, hD, hP, hF⟩; rw [Y2.out] at hD hP ⊢; rw [x2]; have D4 := Lib.hid hD; have P4 := Lib.hid hP; have E4 := Lib.hid (belowG (below_alloc E3.out _) hF); clear D3 P3 hD hP hF) | (go_at_call 19; refine (dread_any 0 0 _ D4.out P4.out (by rw [Z5.out]; decide)).mono ?_; rintro e w5 ⟨A5, c5, rfl, hbt, hD, hP, hF⟩; rw [Y3.out] at hD hP ⊢; rw [x4] at hbt ⊢; rw [x3]; have D5 := Lib.hid hD; have P5 := Lib.hid hP; have B5 := Lib.hid hbt; have E5 := Lib.hid (belowG E4.out hF); clear D4 P4 hD hP hF hbt) | (go_at_call 20; refine (darm_any 1 _ P5.out).mono ?_; rintro e w6 ⟨rfl, hP, hF⟩; rw [Y4.out] at hP; have P6 := Lib.hid hP; have D6 := Lib.hid (D5.out.frP P5.out hF); have B6 := Lib.hid (B5.out.frP P5.out hF); have E6 := Lib.hid (belowP E5.out hF hpp); clear D5 P5 hP hF B5) | (go_at_call 19; refine (dread_any 0 0 _ D6.out P6.out (by rw [Z6.out]; decide)).mono ?_; rintro e w7 ⟨A7, c7, rfl, hbt, hD, hP, hF⟩; rw [Y5.out] at hD hP ⊢; rw [x5]; have D7 := Lib.hid hD; have P7 := Lib.hid hP; have B7 := Lib.hid (B6.out.frG hF (by decide)); have E7 := Lib.hid (belowG E6.out hF); clear D6 P6 hD hP hF hbt B6) | (go_at_call 19; refine (dread_any 0 0 _ D7.out P7.out (by rw [Z7.out]; decide)).mono ?_; rintro e w8 ⟨A8, c8, rfl, hbt, hD, hP, hF⟩; rw [Y6.out] at hD hP ⊢; rw [x6]; have P8 := Lib.hid hP; have t8 := toStr_of (B7.out.frG hF (by decide)).rd c5; (have t9 : (convert 53 9 (.slice A5 1 c5)).run Tryz.prog w8 = .ok (.string ⟨#[120]⟩) w8 := t8); have E8 := Lib.hid (belowG E7.out hF); clear D7 P7 hD hP hF hbt B7 t8) | (go_at_call 21; refine (doff_any _ P8.out).mono ?_; rintro e w9 ⟨rfl, rfl⟩; rw [x7]))
  go_ret
  exact ⟨rfl, E8.out⟩

end Go.Proofs.YtmloiifnadaaoaaGreat
