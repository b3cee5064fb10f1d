/- The walk of do (tegulalaw14): an act on a disk of the program. -/
import Derived.Test.YtmloiifnadaaoaaGreatActA
import Derived.Test.YtmloiifnadaaoaaGreatDskL1
import Derived.Test.YtmloiifnadaaoaaGreatRDskR
namespace Go.Proofs.YtmloiifnadaaoaaGreat
open Go.RowKit
set_option linter.unusedVariables false
set_option linter.unusedSimpArgs false

/-- What an act leaves. -/
def ActOut (G : Nat → Prop) (pd pp : Nat) (o : Out) (bs : List UInt8) (w : World) (e : Ending) (w' : World) : Prop :=
  e = .returned (.tuple #[.string ⟨bs.toArray⟩, .int .i64 o.e]) ∧ IsDisk w' G pd pp o.d ∧ IsPow w' G pp o.p ∧ FrG G diskTs w w'
theorem act_out {G : Nat → Prop} {pd pp : Nat} {o o' : Out} {bs bs' : List UInt8} {w w' : World} {e : Ending} (h : ActOut G pd pp o bs w e w') (h1 : o = o') (h2 : bs = bs') : ActOut G pd pp o' bs' w e w' := by subst h1 h2; exact h
theorem pair_at (v u0 u1 : Value) (dn : Nat) : [v, u0, u1][1 + dn % 2]? = some (if dn % 2 = 1 then u1 else u0) := by
  rcases Nat.mod_two_eq_zero_or_one dn with h | h <;> rw [h] <;> rfl
abbrev doBox (w : World) (pp q0 q1 : Nat) (dn kn key at_ : Int) (v : Value) (fo : Bool) : World :=
  (w.alloc (.cells #[.pointer (some ⟨pp, 0, none⟩), .pointer (some ⟨q0, 0, none⟩), .pointer (some ⟨q1, 0, none⟩)] 35)).alloc (.cells #[.int .u8 dn, .int .u8 kn, .int .u64 key, .int .i64 at_, v, .bool fo] 55)
theorem doBox_below (w : World) (pp q0 q1 : Nat) (dn kn key at_ : Int) (v : Value) (fo : Bool) : Below w.heap.size w (doBox w pp q0 q1 dn kn key at_ v fo) := below_alloc ((Below.refl _ _).alloc (Nat.le_refl _) _) _
section
variable {G : Nat → Prop} {pp pd : Nat} {D : Dsk} {P : Pow}

theorem frG_dsk {w w' : World} (h : IsDisk w G pd pp D) (hF : Fr (· = pd) w w') : FrG G diskTs w w' := by
  obtain ⟨pc, A, c, h1⟩ := h
  exact FrG.ofOne hF h1.hasD (by decide) h1.own

set_option maxHeartbeats 2000000 in
theorem dacquire2_any (key : Int) (w : World) (h : IsDisk w G pd pp D) (hp : IsPow w G pp P) : Calls Tryz.prog 13 #[.pointer (some ⟨pd, 0, none⟩), .int .u64 key] w (OutIs G pd pp (D.acqO P key) w) := by
  by_cases hE : D.state P = 0
  · have hO : D.acqO P key = ⟨0, { D with key := key }, P⟩ := by unfold Dsk.acqO; rw [if_pos hE, hE]
    rw [hO]
    clear hO
    have HE := Lib.hid hE
    have H := Lib.hid h
    have HP := Lib.hid hp
    clear h hp hE
    go_enter Tryz.func13, Tryz.ntmps13
    go_wp2_with (go_at_call 38; refine (dstate_any _ H.out HP.out).mono ?_; rintro e w1 ⟨rfl, hb⟩; rw [HE.out]; obtain ⟨pc, A, c, h1⟩ := H.out.below hb; obtain ⟨_, _, _, _, _, _, _, _, _, k14, _, hl⟩ := h1.cells; have f14 := h1.fz 14; have H1 := Lib.hid h1; have B1 := Lib.hid hb; clear h1 hb)
    go_ret
    obtain ⟨g1, g2⟩ := H1.out.store (D' := { D with key := key }) (i := 14) (v := .int .u64 key) rfl rfl rfl rfl
    exact ⟨rfl, ⟨pc, A, c, g1⟩, (HP.out.below B1.out).setD H1.out.hasD 14 _, (FrG.ofBelow B1.out).trans g2⟩
  · obtain ⟨x, hx⟩ : ∃ x, D.state P = x := ⟨_, rfl⟩
    have hO : D.acqO P key = ⟨x, D, P⟩ := by unfold Dsk.acqO; rw [if_neg hE, hx]
    rw [hO]
    clear hO
    have X1 : (x != 0) = true := by rw [hx] at hE; simpa using hE
    have HX := Lib.hid hx
    have H := Lib.hid h
    have HP := Lib.hid hp
    clear h hp hE hx
    go_enter Tryz.func13, Tryz.ntmps13
    go_wp2_with (go_at_call 38; refine (dstate_any _ H.out HP.out).mono ?_; rintro e w1 ⟨rfl, hb⟩; rw [HX.out]; have B1 := Lib.hid hb; clear hb)
    go_ret
    exact ⟨rfl, H.out.below B1.out, HP.out.below B1.out, FrG.ofBelow B1.out⟩

set_option maxHeartbeats 8000000 in
set_option maxRecDepth 1000000 in
theorem dkread (dn : Nat) (key at_ : Int) (A' : Option Addr) (bs : List UInt8) (c' : Nat) (fo : Bool) (q0 q1 : Nat) (w : World) (hq : (if dn % 2 = 1 then q1 else q0) = pd) (h : IsDisk w G pd pp D) (hp : IsPow w G pp P) (hG : ∀ k, w.heap.size ≤ k → G k) (hfl : D.fl.length ≤ 1000000) (hlen : D.c.l.length ≤ 900000) (hbs : ∀ w', FrG G diskTs w w' → BytesRd w' A' bs) (hcap : bs.length ≤ c') (h63 : bs.length ≤ 140737488351232) (hdn : dn < 256) :
    Calls Tryz.prog 10 #[.agg #[.pointer (some ⟨pp, 0, none⟩), .pointer (some ⟨q0, 0, none⟩), .pointer (some ⟨q1, 0, none⟩)], .agg #[.int .u8 (dn : Int), .int .u8 0, .int .u64 key, .int .i64 at_, .slice A' bs.length c', .bool fo]] w (ActOut G pd pp (D.readO P key at_) (D.readBs P key at_) w) := by
  have hb0 := doBox_below w pp q0 q1 (dn : Int) 0 key at_ (.slice A' bs.length c') fo
  have H := Lib.hid (h.below hb0)
  have HP := Lib.hid (hp.below hb0)
  have HB := Lib.hid hb0
  have HG := Lib.hid (fun k (hk : (doBox w pp q0 q1 (dn : Int) 0 key at_ (.slice A' bs.length c') fo).heap.size ≤ k) => hG k (Nat.le_trans hb0.size hk))
  have Hbs := Lib.hid (fun w' hF => hbs w' ((FrG.ofBelow hb0).trans hF))
  have cq : [Value.pointer (some ⟨pp, 0, none⟩), .pointer (some ⟨q0, 0, none⟩), .pointer (some ⟨q1, 0, none⟩)][1 + dn % 2]? = some (.pointer (some ⟨pd, 0, none⟩)) := by rw [pair_at, ← hq]; split <;> rfl
  have hd2 : dn % 2 < 2 := by omega
  clear h hp hG hbs hb0 hq
  go_enter Tryz.func10, Tryz.ntmps10
  go_wp2_with ((go_at_call 19; refine (dread_any key at_ _ H.out HP.out hfl).mono ?_; rintro e w3 ⟨A5, c5, rfl, hbt, hD, hP, hF⟩; have t8 := toStr_of hbt.rd c5; (have t9 : (convert 53 9 (.slice A5 (D.readBs P key at_).length c5)).run Tryz.prog w3 = .ok (.string ⟨(D.readBs P key at_).toArray⟩) w3 := t8); have X := Lib.hid hD; have Y := Lib.hid hP; have Z := Lib.hid hF; clear hbt hD hP hF t8))
  go_ret2
  exact ⟨rfl, X.out, Y.out, (FrG.ofBelow HB.out).trans Z.out⟩
set_option maxHeartbeats 8000000 in
set_option maxRecDepth 1000000 in
theorem dkwrite (dn : Nat) (key at_ : Int) (A' : Option Addr) (bs : List UInt8) (c' : Nat) (fo : Bool) (q0 q1 : Nat) (w : World) (hq : (if dn % 2 = 1 then q1 else q0) = pd) (h : IsDisk w G pd pp D) (hp : IsPow w G pp P) (hG : ∀ k, w.heap.size ≤ k → G k) (hfl : D.fl.length ≤ 1000000) (hlen : D.c.l.length ≤ 900000) (hbs : ∀ w', FrG G diskTs w w' → BytesRd w' A' bs) (hcap : bs.length ≤ c') (h63 : bs.length ≤ 140737488351232) (hdn : dn < 256) :
    Calls Tryz.prog 10 #[.agg #[.pointer (some ⟨pp, 0, none⟩), .pointer (some ⟨q0, 0, none⟩), .pointer (some ⟨q1, 0, none⟩)], .agg #[.int .u8 (dn : Int), .int .u8 1, .int .u64 key, .int .i64 at_, .slice A' bs.length c', .bool fo]] w (ActOut G pd pp (D.writeO_ P key at_ bs fo) [] w) := by
  have hb0 := doBox_below w pp q0 q1 (dn : Int) 1 key at_ (.slice A' bs.length c') fo
  have H := Lib.hid (h.below hb0)
  have HP := Lib.hid (hp.below hb0)
  have HB := Lib.hid hb0
  have HG := Lib.hid (fun k (hk : (doBox w pp q0 q1 (dn : Int) 1 key at_ (.slice A' bs.length c') fo).heap.size ≤ k) => hG k (Nat.le_trans hb0.size hk))
  have Hbs := Lib.hid (fun w' hF => hbs w' ((FrG.ofBelow hb0).trans hF))
  have cq : [Value.pointer (some ⟨pp, 0, none⟩), .pointer (some ⟨q0, 0, none⟩), .pointer (some ⟨q1, 0, none⟩)][1 + dn % 2]? = some (.pointer (some ⟨pd, 0, none⟩)) := by rw [pair_at, ← hq]; split <;> rfl
  have hd2 : dn % 2 < 2 := by omega
  clear h hp hG hbs hb0 hq
  go_enter Tryz.func10, Tryz.ntmps10
  go_wp2_with ((go_at_call 18; refine (dwrite_any key at_ A' bs c' fo _ H.out HP.out HG.out hfl hlen Hbs.out hcap h63).mono ?_; rintro e w3 ⟨rfl, hD, hP, hF⟩; have X := Lib.hid hD; have Y := Lib.hid hP; have Z := Lib.hid hF; clear hD hP hF))
  go_ret2
  exact ⟨rfl, X.out, Y.out, (FrG.ofBelow HB.out).trans Z.out⟩
set_option maxHeartbeats 8000000 in
set_option maxRecDepth 1000000 in
theorem dkerase (dn : Nat) (key at_ : Int) (A' : Option Addr) (bs : List UInt8) (c' : Nat) (fo : Bool) (q0 q1 : Nat) (w : World) (hq : (if dn % 2 = 1 then q1 else q0) = pd) (h : IsDisk w G pd pp D) (hp : IsPow w G pp P) (hG : ∀ k, w.heap.size ≤ k → G k) (hfl : D.fl.length ≤ 1000000) (hlen : D.c.l.length ≤ 900000) (hbs : ∀ w', FrG G diskTs w w' → BytesRd w' A' bs) (hcap : bs.length ≤ c') (h63 : bs.length ≤ 140737488351232) (hdn : dn < 256) :
    Calls Tryz.prog 10 #[.agg #[.pointer (some ⟨pp, 0, none⟩), .pointer (some ⟨q0, 0, none⟩), .pointer (some ⟨q1, 0, none⟩)], .agg #[.int .u8 (dn : Int), .int .u8 2, .int .u64 key, .int .i64 at_, .slice A' bs.length c', .bool fo]] w (ActOut G pd pp (D.eraseO P key at_) [] w) := by
  have hb0 := doBox_below w pp q0 q1 (dn : Int) 2 key at_ (.slice A' bs.length c') fo
  have H := Lib.hid (h.below hb0)
  have HP := Lib.hid (hp.below hb0)
  have HB := Lib.hid hb0
  have HG := Lib.hid (fun k (hk : (doBox w pp q0 q1 (dn : Int) 2 key at_ (.slice A' bs.length c') fo).heap.size ≤ k) => hG k (Nat.le_trans hb0.size hk))
  have Hbs := Lib.hid (fun w' hF => hbs w' ((FrG.ofBelow hb0).trans hF))
  have cq : [Value.pointer (some ⟨pp, 0, none⟩), .pointer (some ⟨q0, 0, none⟩), .pointer (some ⟨q1, 0, none⟩)][1 + dn % 2]? = some (.pointer (some ⟨pd, 0, none⟩)) := by rw [pair_at, ← hq]; split <;> rfl
  have hd2 : dn % 2 < 2 := by omega
  clear h hp hG hbs hb0 hq
  go_enter Tryz.func10, Tryz.ntmps10
  go_wp2_with ((go_at_call 27; refine (derase_any key at_ _ H.out HP.out HG.out hfl (by omega)).mono ?_; rintro e w3 ⟨rfl, hD, hP, hF⟩; have X := Lib.hid hD; have Y := Lib.hid hP; have Z := Lib.hid hF; clear hD hP hF))
  go_ret2
  exact ⟨rfl, X.out, Y.out, (FrG.ofBelow HB.out).trans Z.out⟩
set_option maxHeartbeats 8000000 in
set_option maxRecDepth 1000000 in
theorem dkflush (dn : Nat) (key at_ : Int) (A' : Option Addr) (bs : List UInt8) (c' : Nat) (fo : Bool) (q0 q1 : Nat) (w : World) (hq : (if dn % 2 = 1 then q1 else q0) = pd) (h : IsDisk w G pd pp D) (hp : IsPow w G pp P) (hG : ∀ k, w.heap.size ≤ k → G k) (hfl : D.fl.length ≤ 1000000) (hlen : D.c.l.length ≤ 900000) (hbs : ∀ w', FrG G diskTs w w' → BytesRd w' A' bs) (hcap : bs.length ≤ c') (h63 : bs.length ≤ 140737488351232) (hdn : dn < 256) :
    Calls Tryz.prog 10 #[.agg #[.pointer (some ⟨pp, 0, none⟩), .pointer (some ⟨q0, 0, none⟩), .pointer (some ⟨q1, 0, none⟩)], .agg #[.int .u8 (dn : Int), .int .u8 3, .int .u64 key, .int .i64 at_, .slice A' bs.length c', .bool fo]] w (ActOut G pd pp (D.flushO P key) [] w) := by
  have hb0 := doBox_below w pp q0 q1 (dn : Int) 3 key at_ (.slice A' bs.length c') fo
  have H := Lib.hid (h.below hb0)
  have HP := Lib.hid (hp.below hb0)
  have HB := Lib.hid hb0
  have HG := Lib.hid (fun k (hk : (doBox w pp q0 q1 (dn : Int) 3 key at_ (.slice A' bs.length c') fo).heap.size ≤ k) => hG k (Nat.le_trans hb0.size hk))
  have Hbs := Lib.hid (fun w' hF => hbs w' ((FrG.ofBelow hb0).trans hF))
  have cq : [Value.pointer (some ⟨pp, 0, none⟩), .pointer (some ⟨q0, 0, none⟩), .pointer (some ⟨q1, 0, none⟩)][1 + dn % 2]? = some (.pointer (some ⟨pd, 0, none⟩)) := by rw [pair_at, ← hq]; split <;> rfl
  have hd2 : dn % 2 < 2 := by omega
  clear h hp hG hbs hb0 hq
  go_enter Tryz.func10, Tryz.ntmps10
  go_wp2_with ((go_at_call 28; refine (dflush_any key _ H.out HP.out HG.out hfl (by omega)).mono ?_; rintro e w3 ⟨rfl, hD, hP, hF⟩; have X := Lib.hid hD; have Y := Lib.hid hP; have Z := Lib.hid hF; clear hD hP hF))
  go_ret2
  exact ⟨rfl, X.out, Y.out, (FrG.ofBelow HB.out).trans Z.out⟩
set_option maxHeartbeats 8000000 in
set_option maxRecDepth 1000000 in
theorem dkacquire (dn : Nat) (key at_ : Int) (A' : Option Addr) (bs : List UInt8) (c' : Nat) (fo : Bool) (q0 q1 : Nat) (w : World) (hq : (if dn % 2 = 1 then q1 else q0) = pd) (h : IsDisk w G pd pp D) (hp : IsPow w G pp P) (hG : ∀ k, w.heap.size ≤ k → G k) (hfl : D.fl.length ≤ 1000000) (hlen : D.c.l.length ≤ 900000) (hbs : ∀ w', FrG G diskTs w w' → BytesRd w' A' bs) (hcap : bs.length ≤ c') (h63 : bs.length ≤ 140737488351232) (hdn : dn < 256) :
    Calls Tryz.prog 10 #[.agg #[.pointer (some ⟨pp, 0, none⟩), .pointer (some ⟨q0, 0, none⟩), .pointer (some ⟨q1, 0, none⟩)], .agg #[.int .u8 (dn : Int), .int .u8 4, .int .u64 key, .int .i64 at_, .slice A' bs.length c', .bool fo]] w (ActOut G pd pp (D.acqO P key) [] w) := by
  have hb0 := doBox_below w pp q0 q1 (dn : Int) 4 key at_ (.slice A' bs.length c') fo
  have H := Lib.hid (h.below hb0)
  have HP := Lib.hid (hp.below hb0)
  have HB := Lib.hid hb0
  have HG := Lib.hid (fun k (hk : (doBox w pp q0 q1 (dn : Int) 4 key at_ (.slice A' bs.length c') fo).heap.size ≤ k) => hG k (Nat.le_trans hb0.size hk))
  have Hbs := Lib.hid (fun w' hF => hbs w' ((FrG.ofBelow hb0).trans hF))
  have cq : [Value.pointer (some ⟨pp, 0, none⟩), .pointer (some ⟨q0, 0, none⟩), .pointer (some ⟨q1, 0, none⟩)][1 + dn % 2]? = some (.pointer (some ⟨pd, 0, none⟩)) := by rw [pair_at, ← hq]; split <;> rfl
  have hd2 : dn % 2 < 2 := by omega
  clear h hp hG hbs hb0 hq
  go_enter Tryz.func10, Tryz.ntmps10
  go_wp2_with ((go_at_call 13; refine (dacquire2_any key _ H.out HP.out).mono ?_; rintro e w3 ⟨rfl, hD, hP, hF⟩; have X := Lib.hid hD; have Y := Lib.hid hP; have Z := Lib.hid hF; clear hD hP hF))
  go_ret2
  exact ⟨rfl, X.out, Y.out, (FrG.ofBelow HB.out).trans Z.out⟩
set_option maxHeartbeats 8000000 in
set_option maxRecDepth 1000000 in
theorem dkkill (dn : Nat) (key at_ : Int) (A' : Option Addr) (bs : List UInt8) (c' : Nat) (fo : Bool) (q0 q1 : Nat) (w : World) (hq : (if dn % 2 = 1 then q1 else q0) = pd) (h : IsDisk w G pd pp D) (hp : IsPow w G pp P) (hG : ∀ k, w.heap.size ≤ k → G k) (hfl : D.fl.length ≤ 1000000) (hlen : D.c.l.length ≤ 900000) (hbs : ∀ w', FrG G diskTs w w' → BytesRd w' A' bs) (hcap : bs.length ≤ c') (h63 : bs.length ≤ 140737488351232) (hdn : dn < 256) :
    Calls Tryz.prog 10 #[.agg #[.pointer (some ⟨pp, 0, none⟩), .pointer (some ⟨q0, 0, none⟩), .pointer (some ⟨q1, 0, none⟩)], .agg #[.int .u8 (dn : Int), .int .u8 5, .int .u64 key, .int .i64 at_, .slice A' bs.length c', .bool fo]] w (ActOut G pd pp ⟨0, { D with dead := true }, P⟩ [] w) := by
  have hb0 := doBox_below w pp q0 q1 (dn : Int) 5 key at_ (.slice A' bs.length c') fo
  have H := Lib.hid (h.below hb0)
  have HP := Lib.hid (hp.below hb0)
  have HB := Lib.hid hb0
  have HG := Lib.hid (fun k (hk : (doBox w pp q0 q1 (dn : Int) 5 key at_ (.slice A' bs.length c') fo).heap.size ≤ k) => hG k (Nat.le_trans hb0.size hk))
  have Hbs := Lib.hid (fun w' hF => hbs w' ((FrG.ofBelow hb0).trans hF))
  have cq : [Value.pointer (some ⟨pp, 0, none⟩), .pointer (some ⟨q0, 0, none⟩), .pointer (some ⟨q1, 0, none⟩)][1 + dn % 2]? = some (.pointer (some ⟨pd, 0, none⟩)) := by rw [pair_at, ← hq]; split <;> rfl
  have hd2 : dn % 2 < 2 := by omega
  clear h hp hG hbs hb0 hq
  go_enter Tryz.func10, Tryz.ntmps10
  go_wp2_with ((go_at_call 8; refine (dkill_any _ H.out).mono ?_; rintro e w3 ⟨rfl, hD, hF⟩; have X := Lib.hid hD; have Y := Lib.hid (HP.out.keepA hF (avoid_one H.out.hasD (by decide))); have Z := Lib.hid (frG_dsk H.out hF); clear hD hF))
  go_ret2
  exact ⟨rfl, X.out, Y.out, (FrG.ofBelow HB.out).trans Z.out⟩
set_option maxHeartbeats 8000000 in
set_option maxRecDepth 1000000 in
theorem dkrestart (dn : Nat) (key at_ : Int) (A' : Option Addr) (bs : List UInt8) (c' : Nat) (fo : Bool) (q0 q1 : Nat) (w : World) (hq : (if dn % 2 = 1 then q1 else q0) = pd) (h : IsDisk w G pd pp D) (hp : IsPow w G pp P) (hG : ∀ k, w.heap.size ≤ k → G k) (hfl : D.fl.length ≤ 1000000) (hlen : D.c.l.length ≤ 900000) (hbs : ∀ w', FrG G diskTs w w' → BytesRd w' A' bs) (hcap : bs.length ≤ c') (h63 : bs.length ≤ 140737488351232) (hdn : dn < 256) :
    Calls Tryz.prog 10 #[.agg #[.pointer (some ⟨pp, 0, none⟩), .pointer (some ⟨q0, 0, none⟩), .pointer (some ⟨q1, 0, none⟩)], .agg #[.int .u8 (dn : Int), .int .u8 6, .int .u64 key, .int .i64 at_, .slice A' bs.length c', .bool fo]] w (ActOut G pd pp (D.restartO P at_) [] w) := by
  have hb0 := doBox_below w pp q0 q1 (dn : Int) 6 key at_ (.slice A' bs.length c') fo
  have H := Lib.hid (h.below hb0)
  have HP := Lib.hid (hp.below hb0)
  have HB := Lib.hid hb0
  have HG := Lib.hid (fun k (hk : (doBox w pp q0 q1 (dn : Int) 6 key at_ (.slice A' bs.length c') fo).heap.size ≤ k) => hG k (Nat.le_trans hb0.size hk))
  have Hbs := Lib.hid (fun w' hF => hbs w' ((FrG.ofBelow hb0).trans hF))
  have cq : [Value.pointer (some ⟨pp, 0, none⟩), .pointer (some ⟨q0, 0, none⟩), .pointer (some ⟨q1, 0, none⟩)][1 + dn % 2]? = some (.pointer (some ⟨pd, 0, none⟩)) := by rw [pair_at, ← hq]; split <;> rfl
  have hd2 : dn % 2 < 2 := by omega
  clear h hp hG hbs hb0 hq
  go_enter Tryz.func10, Tryz.ntmps10
  go_wp2_with ((go_at_call 14; refine (drestart_any at_ _ H.out HP.out HG.out (by omega)).mono ?_; rintro e w3 ⟨rfl, hD, hP, hF⟩; have X := Lib.hid hD; have Y := Lib.hid hP; have Z := Lib.hid hF; clear hD hP hF))
  go_ret2
  exact ⟨rfl, X.out, Y.out, (FrG.ofBelow HB.out).trans Z.out⟩
set_option maxHeartbeats 8000000 in
set_option maxRecDepth 1000000 in
theorem dkarm (dn : Nat) (key at_ : Int) (A' : Option Addr) (bs : List UInt8) (c' : Nat) (fo : Bool) (q0 q1 : Nat) (w : World) (hq : (if dn % 2 = 1 then q1 else q0) = pd) (h : IsDisk w G pd pp D) (hp : IsPow w G pp P) (hG : ∀ k, w.heap.size ≤ k → G k) (hfl : D.fl.length ≤ 1000000) (hlen : D.c.l.length ≤ 900000) (hbs : ∀ w', FrG G diskTs w w' → BytesRd w' A' bs) (hcap : bs.length ≤ c') (h63 : bs.length ≤ 140737488351232) (hdn : dn < 256) :
    Calls Tryz.prog 10 #[.agg #[.pointer (some ⟨pp, 0, none⟩), .pointer (some ⟨q0, 0, none⟩), .pointer (some ⟨q1, 0, none⟩)], .agg #[.int .u8 (dn : Int), .int .u8 7, .int .u64 key, .int .i64 at_, .slice A' bs.length c', .bool fo]] w (ActOut G pd pp ⟨0, D, P.arm at_⟩ [] w) := by
  have hb0 := doBox_below w pp q0 q1 (dn : Int) 7 key at_ (.slice A' bs.length c') fo
  have H := Lib.hid (h.below hb0)
  have HP := Lib.hid (hp.below hb0)
  have HB := Lib.hid hb0
  have HG := Lib.hid (fun k (hk : (doBox w pp q0 q1 (dn : Int) 7 key at_ (.slice A' bs.length c') fo).heap.size ≤ k) => hG k (Nat.le_trans hb0.size hk))
  have Hbs := Lib.hid (fun w' hF => hbs w' ((FrG.ofBelow hb0).trans hF))
  have cq : [Value.pointer (some ⟨pp, 0, none⟩), .pointer (some ⟨q0, 0, none⟩), .pointer (some ⟨q1, 0, none⟩)][1 + dn % 2]? = some (.pointer (some ⟨pd, 0, none⟩)) := by rw [pair_at, ← hq]; split <;> rfl
  have hd2 : dn % 2 < 2 := by omega
  clear h hp hG hbs hb0 hq
  go_enter Tryz.func10, Tryz.ntmps10
  go_wp2_with ((go_at_call 20; refine (darm_any at_ _ HP.out).mono ?_; rintro e w3 ⟨rfl, hP, hF⟩; have X := Lib.hid (H.out.frP HP.out hF); have Y := Lib.hid hP; have Z := Lib.hid (frG_pow HP.out hF); clear hP hF))
  go_ret2
  exact ⟨rfl, X.out, Y.out, (FrG.ofBelow HB.out).trans Z.out⟩
set_option maxHeartbeats 8000000 in
set_option maxRecDepth 1000000 in
theorem dkon (dn : Nat) (key at_ : Int) (A' : Option Addr) (bs : List UInt8) (c' : Nat) (fo : Bool) (q0 q1 : Nat) (w : World) (hq : (if dn % 2 = 1 then q1 else q0) = pd) (h : IsDisk w G pd pp D) (hp : IsPow w G pp P) (hG : ∀ k, w.heap.size ≤ k → G k) (hfl : D.fl.length ≤ 1000000) (hlen : D.c.l.length ≤ 900000) (hbs : ∀ w', FrG G diskTs w w' → BytesRd w' A' bs) (hcap : bs.length ≤ c') (h63 : bs.length ≤ 140737488351232) (hdn : dn < 256) :
    Calls Tryz.prog 10 #[.agg #[.pointer (some ⟨pp, 0, none⟩), .pointer (some ⟨q0, 0, none⟩), .pointer (some ⟨q1, 0, none⟩)], .agg #[.int .u8 (dn : Int), .int .u8 8, .int .u64 key, .int .i64 at_, .slice A' bs.length c', .bool fo]] w (ActOut G pd pp ⟨0, D, P.on⟩ [] w) := by
  have hb0 := doBox_below w pp q0 q1 (dn : Int) 8 key at_ (.slice A' bs.length c') fo
  have H := Lib.hid (h.below hb0)
  have HP := Lib.hid (hp.below hb0)
  have HB := Lib.hid hb0
  have HG := Lib.hid (fun k (hk : (doBox w pp q0 q1 (dn : Int) 8 key at_ (.slice A' bs.length c') fo).heap.size ≤ k) => hG k (Nat.le_trans hb0.size hk))
  have Hbs := Lib.hid (fun w' hF => hbs w' ((FrG.ofBelow hb0).trans hF))
  have cq : [Value.pointer (some ⟨pp, 0, none⟩), .pointer (some ⟨q0, 0, none⟩), .pointer (some ⟨q1, 0, none⟩)][1 + dn % 2]? = some (.pointer (some ⟨pd, 0, none⟩)) := by rw [pair_at, ← hq]; split <;> rfl
  have hd2 : dn % 2 < 2 := by omega
  clear h hp hG hbs hb0 hq
  go_enter Tryz.func10, Tryz.ntmps10
  go_wp2_with ((go_at_call 29; refine (don_any _ HP.out).mono ?_; rintro e w3 ⟨rfl, hP, hF⟩; have X := Lib.hid (H.out.frP HP.out hF); have Y := Lib.hid hP; have Z := Lib.hid (frG_pow HP.out hF); clear hP hF))
  go_ret2
  exact ⟨rfl, X.out, Y.out, (FrG.ofBelow HB.out).trans Z.out⟩
set_option maxHeartbeats 8000000 in
set_option maxRecDepth 1000000 in
theorem dkelse (kn : Nat) (hkn : 9 ≤ kn) (hk256 : kn < 256) (dn : Nat) (key at_ : Int) (A' : Option Addr) (bs : List UInt8) (c' : Nat) (fo : Bool) (q0 q1 : Nat) (w : World) (hq : (if dn % 2 = 1 then q1 else q0) = pd) (h : IsDisk w G pd pp D) (hp : IsPow w G pp P) (hG : ∀ k, w.heap.size ≤ k → G k) (hfl : D.fl.length ≤ 1000000) (hlen : D.c.l.length ≤ 900000) (hbs : ∀ w', FrG G diskTs w w' → BytesRd w' A' bs) (hcap : bs.length ≤ c') (h63 : bs.length ≤ 140737488351232) (hdn : dn < 256) :
    Calls Tryz.prog 10 #[.agg #[.pointer (some ⟨pp, 0, none⟩), .pointer (some ⟨q0, 0, none⟩), .pointer (some ⟨q1, 0, none⟩)], .agg #[.int .u8 (dn : Int), .int .u8 (kn : Int), .int .u64 key, .int .i64 at_, .slice A' bs.length c', .bool fo]] w (ActOut G pd pp ⟨0, D, P⟩ [] w) := by
  have hb0 := doBox_below w pp q0 q1 (dn : Int) (kn : Int) key at_ (.slice A' bs.length c') fo
  have H := Lib.hid (h.below hb0)
  have HP := Lib.hid (hp.below hb0)
  have HB := Lib.hid hb0
  have HG := Lib.hid (fun k (hk : (doBox w pp q0 q1 (dn : Int) (kn : Int) key at_ (.slice A' bs.length c') fo).heap.size ≤ k) => hG k (Nat.le_trans hb0.size hk))
  have Hbs := Lib.hid (fun w' hF => hbs w' ((FrG.ofBelow hb0).trans hF))
  have cq : [Value.pointer (some ⟨pp, 0, none⟩), .pointer (some ⟨q0, 0, none⟩), .pointer (some ⟨q1, 0, none⟩)][1 + dn % 2]? = some (.pointer (some ⟨pd, 0, none⟩)) := by rw [pair_at, ← hq]; split <;> rfl
  have hd2 : dn % 2 < 2 := by omega
  have b0 : ((kn : Int) == 0) = false := by simp only [beq_eq_false_iff_ne, ne_eq]; omega
  have b1 : ((kn : Int) == 1) = false := by simp only [beq_eq_false_iff_ne, ne_eq]; omega
  have b2 : ((kn : Int) == 2) = false := by simp only [beq_eq_false_iff_ne, ne_eq]; omega
  have b3 : ((kn : Int) == 3) = false := by simp only [beq_eq_false_iff_ne, ne_eq]; omega
  have b4 : ((kn : Int) == 4) = false := by simp only [beq_eq_false_iff_ne, ne_eq]; omega
  have b5 : ((kn : Int) == 5) = false := by simp only [beq_eq_false_iff_ne, ne_eq]; omega
  have b6 : ((kn : Int) == 6) = false := by simp only [beq_eq_false_iff_ne, ne_eq]; omega
  have b7 : ((kn : Int) == 7) = false := by simp only [beq_eq_false_iff_ne, ne_eq]; omega
  have b8 : ((kn : Int) == 8) = false := by simp only [beq_eq_false_iff_ne, ne_eq]; omega
  clear h hp hG hbs hb0 hq
  go_enter Tryz.func10, Tryz.ntmps10
  go_wp2_with fail
  go_ret2
  exact ⟨rfl, H.out, HP.out, FrG.ofBelow HB.out⟩

theorem u8_is {x : UInt8} {n : UInt8} (h : x = n) : (x.toNat : Int) = (n.toNat : Int) := by rw [h]
/-- An act on a disk of the program. -/
theorem do14_any (a : Act) (A' : Option Addr) (c' : Nat) (q0 q1 : Nat) (w : World) (hq : (if a.side then q1 else q0) = pd) (h : IsDisk w G pd pp D) (hp : IsPow w G pp P) (hG : ∀ k, w.heap.size ≤ k → G k) (hfl : D.fl.length ≤ 1000000) (hlen : D.c.l.length ≤ 900000) (hbs : ∀ w', FrG G diskTs w w' → BytesRd w' A' a.bs) (hcap : a.bs.length ≤ c') (h63 : a.bs.length ≤ 140737488351232) :
    Calls Tryz.prog 10 #[.agg #[.pointer (some ⟨pp, 0, none⟩), .pointer (some ⟨q0, 0, none⟩), .pointer (some ⟨q1, 0, none⟩)], .agg #[.int .u8 (a.disk.toNat : Int), .int .u8 (a.kind.toNat : Int), .int .u64 a.key, .int .i64 a.at_, .slice A' a.bs.length c', .bool a.force]] w (ActOut G pd pp (D.actO P a) (D.actB P a) w) := by
  obtain ⟨dk, kd, key, at_, bs, fo⟩ := a
  have hdn : dk.toNat < 256 := dk.toNat_lt
  have hq' : (if dk.toNat % 2 = 1 then q1 else q0) = pd := by rw [← hq]; unfold Act.side; simp
  simp only at hbs hcap h63 ⊢
  by_cases k0 : kd = 0
  · subst k0
    exact dkread dk.toNat key at_ A' bs c' fo q0 q1 w hq' h hp hG hfl hlen hbs hcap h63 hdn
  by_cases k1 : kd = 1
  · subst k1
    exact dkwrite dk.toNat key at_ A' bs c' fo q0 q1 w hq' h hp hG hfl hlen hbs hcap h63 hdn
  by_cases k2 : kd = 2
  · subst k2
    exact dkerase dk.toNat key at_ A' bs c' fo q0 q1 w hq' h hp hG hfl hlen hbs hcap h63 hdn
  by_cases k3 : kd = 3
  · subst k3
    exact dkflush dk.toNat key at_ A' bs c' fo q0 q1 w hq' h hp hG hfl hlen hbs hcap h63 hdn
  by_cases k4 : kd = 4
  · subst k4
    exact dkacquire dk.toNat key at_ A' bs c' fo q0 q1 w hq' h hp hG hfl hlen hbs hcap h63 hdn
  by_cases k5 : kd = 5
  · subst k5
    exact dkkill dk.toNat key at_ A' bs c' fo q0 q1 w hq' h hp hG hfl hlen hbs hcap h63 hdn
  by_cases k6 : kd = 6
  · subst k6
    exact dkrestart dk.toNat key at_ A' bs c' fo q0 q1 w hq' h hp hG hfl hlen hbs hcap h63 hdn
  by_cases k7 : kd = 7
  · subst k7
    exact dkarm dk.toNat key at_ A' bs c' fo q0 q1 w hq' h hp hG hfl hlen hbs hcap h63 hdn
  by_cases k8 : kd = 8
  · subst k8
    exact dkon dk.toNat key at_ A' bs c' fo q0 q1 w hq' h hp hG hfl hlen hbs hcap h63 hdn
  have key9 : 9 ≤ kd.toNat := by
    have f : ∀ n : UInt8, kd ≠ n → kd.toNat ≠ n.toNat := fun n hn e => hn (UInt8.toNat_inj.1 e)
    have f0 := f 0 k0
    have f1 := f 1 k1
    have f2 := f 2 k2
    have f3 := f 3 k3
    have f4 := f 4 k4
    have f5 := f 5 k5
    have f6 := f 6 k6
    have f7 := f 7 k7
    have f8 := f 8 k8
    simp at f0 f1 f2 f3 f4 f5 f6 f7 f8
    omega
  have e1 : D.actO P ⟨dk, kd, key, at_, bs, fo⟩ = ⟨0, D, P⟩ := by unfold Dsk.actO; simp only; rw [if_neg k0, if_neg k1, if_neg k2, if_neg k3, if_neg k4, if_neg k5, if_neg k6, if_neg k7, if_neg k8]
  have e2 : D.actB P ⟨dk, kd, key, at_, bs, fo⟩ = [] := by unfold Dsk.actB; simp only; rw [if_neg k0]
  rw [e1, e2]
  exact dkelse kd.toNat key9 kd.toNat_lt dk.toNat key at_ A' bs c' fo q0 q1 w hq' h hp hG hfl hlen hbs hcap h63 hdn
end
end Go.Proofs.YtmloiifnadaaoaaGreat
/- The walk of want (tegulalaw14): an act on a disk of the reference. -/
namespace Go.Proofs.YtmloiifnadaaoaaGreat
open Go.RowKit
set_option linter.unusedVariables false
set_option linter.unusedSimpArgs false

/-- What an act leaves. -/
def RActOut (G : Nat → Prop) (pd pp : Nat) (o : Out) (bs : List UInt8) (w : World) (e : Ending) (w' : World) : Prop :=
  e = .returned (.tuple #[.string ⟨bs.toArray⟩, .int .i64 o.e]) ∧ IsRDisk w' G pd pp o.d ∧ IsRPow w' G pp o.p ∧ FrG G rdiskTs w w'
theorem ract_out {G : Nat → Prop} {pd pp : Nat} {o o' : Out} {bs bs' : List UInt8} {w w' : World} {e : Ending} (h : RActOut G pd pp o bs w e w') (h1 : o = o') (h2 : bs = bs') : RActOut G pd pp o' bs' w e w' := by subst h1 h2; exact h
theorem pair2_at (u0 u1 : Value) (dn : Nat) : [u0, u1][dn % 2]? = some (if dn % 2 = 1 then u1 else u0) := by
  rcases Nat.mod_two_eq_zero_or_one dn with h | h <;> rw [h] <;> rfl
abbrev wantBox (w : World) (q0 q1 : Nat) (dn kn key at_ : Int) (v : Value) (fo : Bool) : World :=
  (w.alloc (.cells #[.pointer (some ⟨q0, 0, none⟩), .pointer (some ⟨q1, 0, none⟩)] 40)).alloc (.cells #[.int .u8 dn, .int .u8 kn, .int .u64 key, .int .i64 at_, v, .bool fo] 55)
theorem wantBox_below (w : World) (q0 q1 : Nat) (dn kn key at_ : Int) (v : Value) (fo : Bool) : Below w.heap.size w (wantBox w q0 q1 dn kn key at_ v fo) := below_alloc ((Below.refl _ _).alloc (Nat.le_refl _) _) _
section
variable {G : Nat → Prop} {pp pd : Nat} {D : Dsk} {P : Pow}

theorem rfrG_dsk {w w' : World} (h : IsRDisk w G pd pp D) (hF : Fr (· = pd) w w') : FrG G rdiskTs w w' := by
  obtain ⟨pc, A, c, h1⟩ := h
  exact FrG.ofOne hF h1.hasD (by decide) h1.own

set_option maxHeartbeats 2000000 in
theorem racquire2_any (key : Int) (w : World) (h : IsRDisk w G pd pp D) (hp : IsRPow w G pp P) : Calls Tryz.prog 34 #[.pointer (some ⟨pd, 0, none⟩), .int .u64 key] w (ROutIs G pd pp (D.acqO P key) w) := by
  obtain ⟨pc, A, c, h0⟩ := h
  obtain ⟨_, _, _, _, k9, _⟩ := h0.cells
  have H := Lib.hid (show IsRDisk w G pd pp D from ⟨pc, A, c, h0⟩)
  have HP := Lib.hid hp
  clear h0 hp
  cases hd : D.dead with
  | true =>
    have hO : D.acqO P key = ⟨14, D, P⟩ := by unfold Dsk.acqO; rw [Dsk.state_dead hd, if_neg (by decide)]
    rw [hO]
    rw [hd] at k9
    clear hd hO
    go_enter Tryz.func34, Tryz.ntmps34
    go_wp2
    go_ret
    exact ⟨rfl, H.out, HP.out, FrG.refl _ _ _⟩
  | false =>
    rw [hd] at k9
    cases hr : D.ready P with
    | false =>
      have hO : D.acqO P key = ⟨13, D, P⟩ := by unfold Dsk.acqO; rw [Dsk.state_ready hd, hr]; rfl
      rw [hO]
      have Hr := Lib.hid hr
      clear hr hO hd
      go_enter Tryz.func34, Tryz.ntmps34
      go_wp2_with (go_at_call 69; refine (rready_any _ H.out HP.out).mono ?_; rintro e w1 ⟨rfl, hb⟩; rw [Hr.out]; have B1 := Lib.hid hb; clear hb)
      go_ret
      exact ⟨rfl, H.out.below B1.out, HP.out.below B1.out, FrG.ofBelow B1.out⟩
    | true =>
      have hO : D.acqO P key = ⟨0, { D with key := key }, P⟩ := by unfold Dsk.acqO; rw [Dsk.state_ready hd, hr]; rfl
      rw [hO]
      have Hr := Lib.hid hr
      clear hr hO hd
      go_enter Tryz.func34, Tryz.ntmps34
      go_wp2_with (go_at_call 69; refine (rready_any _ H.out HP.out).mono ?_; rintro e w1 ⟨rfl, hb⟩; rw [Hr.out]; obtain ⟨pc, A, c, h1⟩ := H.out.below hb; obtain ⟨_, _, _, k8, _, _, _, _, _, _, _, hl⟩ := h1.cells; have f8 := h1.fz 8; have H1 := Lib.hid h1; have B1 := Lib.hid hb; clear h1 hb)
      go_ret
      obtain ⟨g1, g2⟩ := H1.out.store (D' := { D with key := key }) (i := 8) (v := .int .u64 key) rfl rfl rfl rfl
      exact ⟨rfl, ⟨pc, A, c, g1⟩, IsRPow.setD (HP.out.below B1.out) H1.out.hasD 8 _, (FrG.ofBelow B1.out).trans g2⟩
set_option maxHeartbeats 8000000 in
set_option maxRecDepth 1000000 in
theorem rkread (pv : Option Addr) (dn : Nat) (key at_ : Int) (A' : Option Addr) (bs : List UInt8) (c' : Nat) (fo : Bool) (q0 q1 : Nat) (w : World) (hq : (if dn % 2 = 1 then q1 else q0) = pd) (h : IsRDisk w G pd pp D) (hp : IsRPow w G pp P) (hG : ∀ k, w.heap.size ≤ k → G k) (hfl : D.fl.length ≤ 1000000) (hlen : D.c.l.length ≤ 900000) (hbs : ∀ w', FrG G rdiskTs w w' → BytesRd w' A' bs) (hcap : bs.length ≤ c') (h63 : bs.length ≤ 140737488351232) (hdn : dn < 256) :
    Calls Tryz.prog 11 #[.pointer pv, .agg #[.pointer (some ⟨q0, 0, none⟩), .pointer (some ⟨q1, 0, none⟩)], .agg #[.int .u8 (dn : Int), .int .u8 0, .int .u64 key, .int .i64 at_, .slice A' bs.length c', .bool fo]] w (RActOut G pd pp (D.readO P key at_) (D.readBs P key at_) w) := by
  have hb0 := wantBox_below w q0 q1 (dn : Int) 0 key at_ (.slice A' bs.length c') fo
  have H := Lib.hid (h.below hb0)
  have HP := Lib.hid (hp.below hb0)
  have HB := Lib.hid hb0
  have HG := Lib.hid (fun k (hk : (wantBox w q0 q1 (dn : Int) 0 key at_ (.slice A' bs.length c') fo).heap.size ≤ k) => hG k (Nat.le_trans hb0.size hk))
  have Hbs := Lib.hid (fun w' hF => hbs w' ((FrG.ofBelow hb0).trans hF))
  have cq : [Value.pointer (some ⟨q0, 0, none⟩), .pointer (some ⟨q1, 0, none⟩)][dn % 2]? = some (.pointer (some ⟨pd, 0, none⟩)) := by rw [pair2_at, ← hq]; split <;> rfl
  have hd2 : dn % 2 < 2 := by omega
  have cq2 : ∀ h9, [Value.pointer (some ⟨q0, 0, none⟩), .pointer (some ⟨q1, 0, none⟩)][dn % 2]'h9 = .pointer (some ⟨pd, 0, none⟩) := by intro h9; have h8 := cq; rw [List.getElem?_eq_getElem h9] at h8; exact Option.some.inj h8
  clear cq
  clear h hp hG hbs hb0 hq
  go_enter Tryz.func11, Tryz.ntmps11
  go_wp2_with ((go_at_call 30; refine (rdread_any key at_ _ H.out HP.out hfl (by omega)).mono ?_; rintro e w3 ⟨A5, c5, rfl, hbt, hD, hP, hF⟩; have t8 := toStr_of hbt.rd c5; (have t9 : (convert 53 9 (.slice A5 (D.readBs P key at_).length c5)).run Tryz.prog w3 = .ok (.string ⟨(D.readBs P key at_).toArray⟩) w3 := t8); have X := Lib.hid hD; have Y := Lib.hid hP; have Z := Lib.hid hF; clear hbt hD hP hF t8))
  go_ret2
  exact ⟨rfl, X.out, Y.out, (FrG.ofBelow HB.out).trans Z.out⟩
set_option maxHeartbeats 8000000 in
set_option maxRecDepth 1000000 in
theorem rkwrite (pv : Option Addr) (dn : Nat) (key at_ : Int) (A' : Option Addr) (bs : List UInt8) (c' : Nat) (fo : Bool) (q0 q1 : Nat) (w : World) (hq : (if dn % 2 = 1 then q1 else q0) = pd) (h : IsRDisk w G pd pp D) (hp : IsRPow w G pp P) (hG : ∀ k, w.heap.size ≤ k → G k) (hfl : D.fl.length ≤ 1000000) (hlen : D.c.l.length ≤ 900000) (hbs : ∀ w', FrG G rdiskTs w w' → BytesRd w' A' bs) (hcap : bs.length ≤ c') (h63 : bs.length ≤ 140737488351232) (hdn : dn < 256) :
    Calls Tryz.prog 11 #[.pointer pv, .agg #[.pointer (some ⟨q0, 0, none⟩), .pointer (some ⟨q1, 0, none⟩)], .agg #[.int .u8 (dn : Int), .int .u8 1, .int .u64 key, .int .i64 at_, .slice A' bs.length c', .bool fo]] w (RActOut G pd pp (D.writeO_ P key at_ bs fo) [] w) := by
  have hb0 := wantBox_below w q0 q1 (dn : Int) 1 key at_ (.slice A' bs.length c') fo
  have H := Lib.hid (h.below hb0)
  have HP := Lib.hid (hp.below hb0)
  have HB := Lib.hid hb0
  have HG := Lib.hid (fun k (hk : (wantBox w q0 q1 (dn : Int) 1 key at_ (.slice A' bs.length c') fo).heap.size ≤ k) => hG k (Nat.le_trans hb0.size hk))
  have Hbs := Lib.hid (fun w' hF => hbs w' ((FrG.ofBelow hb0).trans hF))
  have cq : [Value.pointer (some ⟨q0, 0, none⟩), .pointer (some ⟨q1, 0, none⟩)][dn % 2]? = some (.pointer (some ⟨pd, 0, none⟩)) := by rw [pair2_at, ← hq]; split <;> rfl
  have hd2 : dn % 2 < 2 := by omega
  have cq2 : ∀ h9, [Value.pointer (some ⟨q0, 0, none⟩), .pointer (some ⟨q1, 0, none⟩)][dn % 2]'h9 = .pointer (some ⟨pd, 0, none⟩) := by intro h9; have h8 := cq; rw [List.getElem?_eq_getElem h9] at h8; exact Option.some.inj h8
  clear cq
  clear h hp hG hbs hb0 hq
  go_enter Tryz.func11, Tryz.ntmps11
  go_wp2_with ((go_at_call 31; refine (rdwrite_any key at_ A' bs c' fo _ H.out HP.out hfl hlen Hbs.out hcap h63).mono ?_; rintro e w3 ⟨rfl, hD, hP, hF⟩; have X := Lib.hid hD; have Y := Lib.hid hP; have Z := Lib.hid hF; clear hD hP hF))
  go_ret2
  exact ⟨rfl, X.out, Y.out, (FrG.ofBelow HB.out).trans Z.out⟩
set_option maxHeartbeats 8000000 in
set_option maxRecDepth 1000000 in
theorem rkerase (pv : Option Addr) (dn : Nat) (key at_ : Int) (A' : Option Addr) (bs : List UInt8) (c' : Nat) (fo : Bool) (q0 q1 : Nat) (w : World) (hq : (if dn % 2 = 1 then q1 else q0) = pd) (h : IsRDisk w G pd pp D) (hp : IsRPow w G pp P) (hG : ∀ k, w.heap.size ≤ k → G k) (hfl : D.fl.length ≤ 1000000) (hlen : D.c.l.length ≤ 900000) (hbs : ∀ w', FrG G rdiskTs w w' → BytesRd w' A' bs) (hcap : bs.length ≤ c') (h63 : bs.length ≤ 140737488351232) (hdn : dn < 256) :
    Calls Tryz.prog 11 #[.pointer pv, .agg #[.pointer (some ⟨q0, 0, none⟩), .pointer (some ⟨q1, 0, none⟩)], .agg #[.int .u8 (dn : Int), .int .u8 2, .int .u64 key, .int .i64 at_, .slice A' bs.length c', .bool fo]] w (RActOut G pd pp (D.eraseO P key at_) [] w) := by
  have hb0 := wantBox_below w q0 q1 (dn : Int) 2 key at_ (.slice A' bs.length c') fo
  have H := Lib.hid (h.below hb0)
  have HP := Lib.hid (hp.below hb0)
  have HB := Lib.hid hb0
  have HG := Lib.hid (fun k (hk : (wantBox w q0 q1 (dn : Int) 2 key at_ (.slice A' bs.length c') fo).heap.size ≤ k) => hG k (Nat.le_trans hb0.size hk))
  have Hbs := Lib.hid (fun w' hF => hbs w' ((FrG.ofBelow hb0).trans hF))
  have cq : [Value.pointer (some ⟨q0, 0, none⟩), .pointer (some ⟨q1, 0, none⟩)][dn % 2]? = some (.pointer (some ⟨pd, 0, none⟩)) := by rw [pair2_at, ← hq]; split <;> rfl
  have hd2 : dn % 2 < 2 := by omega
  have cq2 : ∀ h9, [Value.pointer (some ⟨q0, 0, none⟩), .pointer (some ⟨q1, 0, none⟩)][dn % 2]'h9 = .pointer (some ⟨pd, 0, none⟩) := by intro h9; have h8 := cq; rw [List.getElem?_eq_getElem h9] at h8; exact Option.some.inj h8
  clear cq
  clear h hp hG hbs hb0 hq
  go_enter Tryz.func11, Tryz.ntmps11
  go_wp2_with ((go_at_call 32; refine (rderase_any key at_ _ H.out HP.out hfl (by omega)).mono ?_; rintro e w3 ⟨rfl, hD, hP, hF⟩; have X := Lib.hid hD; have Y := Lib.hid hP; have Z := Lib.hid hF; clear hD hP hF))
  go_ret2
  exact ⟨rfl, X.out, Y.out, (FrG.ofBelow HB.out).trans Z.out⟩
set_option maxHeartbeats 8000000 in
set_option maxRecDepth 1000000 in
theorem rkflush (pv : Option Addr) (dn : Nat) (key at_ : Int) (A' : Option Addr) (bs : List UInt8) (c' : Nat) (fo : Bool) (q0 q1 : Nat) (w : World) (hq : (if dn % 2 = 1 then q1 else q0) = pd) (h : IsRDisk w G pd pp D) (hp : IsRPow w G pp P) (hG : ∀ k, w.heap.size ≤ k → G k) (hfl : D.fl.length ≤ 1000000) (hlen : D.c.l.length ≤ 900000) (hbs : ∀ w', FrG G rdiskTs w w' → BytesRd w' A' bs) (hcap : bs.length ≤ c') (h63 : bs.length ≤ 140737488351232) (hdn : dn < 256) :
    Calls Tryz.prog 11 #[.pointer pv, .agg #[.pointer (some ⟨q0, 0, none⟩), .pointer (some ⟨q1, 0, none⟩)], .agg #[.int .u8 (dn : Int), .int .u8 3, .int .u64 key, .int .i64 at_, .slice A' bs.length c', .bool fo]] w (RActOut G pd pp (D.flushO P key) [] w) := by
  have hb0 := wantBox_below w q0 q1 (dn : Int) 3 key at_ (.slice A' bs.length c') fo
  have H := Lib.hid (h.below hb0)
  have HP := Lib.hid (hp.below hb0)
  have HB := Lib.hid hb0
  have HG := Lib.hid (fun k (hk : (wantBox w q0 q1 (dn : Int) 3 key at_ (.slice A' bs.length c') fo).heap.size ≤ k) => hG k (Nat.le_trans hb0.size hk))
  have Hbs := Lib.hid (fun w' hF => hbs w' ((FrG.ofBelow hb0).trans hF))
  have cq : [Value.pointer (some ⟨q0, 0, none⟩), .pointer (some ⟨q1, 0, none⟩)][dn % 2]? = some (.pointer (some ⟨pd, 0, none⟩)) := by rw [pair2_at, ← hq]; split <;> rfl
  have hd2 : dn % 2 < 2 := by omega
  have cq2 : ∀ h9, [Value.pointer (some ⟨q0, 0, none⟩), .pointer (some ⟨q1, 0, none⟩)][dn % 2]'h9 = .pointer (some ⟨pd, 0, none⟩) := by intro h9; have h8 := cq; rw [List.getElem?_eq_getElem h9] at h8; exact Option.some.inj h8
  clear cq
  clear h hp hG hbs hb0 hq
  go_enter Tryz.func11, Tryz.ntmps11
  go_wp2_with ((go_at_call 33; refine (rdflush_any key _ H.out HP.out hfl (by omega)).mono ?_; rintro e w3 ⟨rfl, hD, hP, hF⟩; have X := Lib.hid hD; have Y := Lib.hid hP; have Z := Lib.hid hF; clear hD hP hF))
  go_ret2
  exact ⟨rfl, X.out, Y.out, (FrG.ofBelow HB.out).trans Z.out⟩
set_option maxHeartbeats 8000000 in
set_option maxRecDepth 1000000 in
theorem rkacquire (pv : Option Addr) (dn : Nat) (key at_ : Int) (A' : Option Addr) (bs : List UInt8) (c' : Nat) (fo : Bool) (q0 q1 : Nat) (w : World) (hq : (if dn % 2 = 1 then q1 else q0) = pd) (h : IsRDisk w G pd pp D) (hp : IsRPow w G pp P) (hG : ∀ k, w.heap.size ≤ k → G k) (hfl : D.fl.length ≤ 1000000) (hlen : D.c.l.length ≤ 900000) (hbs : ∀ w', FrG G rdiskTs w w' → BytesRd w' A' bs) (hcap : bs.length ≤ c') (h63 : bs.length ≤ 140737488351232) (hdn : dn < 256) :
    Calls Tryz.prog 11 #[.pointer pv, .agg #[.pointer (some ⟨q0, 0, none⟩), .pointer (some ⟨q1, 0, none⟩)], .agg #[.int .u8 (dn : Int), .int .u8 4, .int .u64 key, .int .i64 at_, .slice A' bs.length c', .bool fo]] w (RActOut G pd pp (D.acqO P key) [] w) := by
  have hb0 := wantBox_below w q0 q1 (dn : Int) 4 key at_ (.slice A' bs.length c') fo
  have H := Lib.hid (h.below hb0)
  have HP := Lib.hid (hp.below hb0)
  have HB := Lib.hid hb0
  have HG := Lib.hid (fun k (hk : (wantBox w q0 q1 (dn : Int) 4 key at_ (.slice A' bs.length c') fo).heap.size ≤ k) => hG k (Nat.le_trans hb0.size hk))
  have Hbs := Lib.hid (fun w' hF => hbs w' ((FrG.ofBelow hb0).trans hF))
  have cq : [Value.pointer (some ⟨q0, 0, none⟩), .pointer (some ⟨q1, 0, none⟩)][dn % 2]? = some (.pointer (some ⟨pd, 0, none⟩)) := by rw [pair2_at, ← hq]; split <;> rfl
  have hd2 : dn % 2 < 2 := by omega
  have cq2 : ∀ h9, [Value.pointer (some ⟨q0, 0, none⟩), .pointer (some ⟨q1, 0, none⟩)][dn % 2]'h9 = .pointer (some ⟨pd, 0, none⟩) := by intro h9; have h8 := cq; rw [List.getElem?_eq_getElem h9] at h8; exact Option.some.inj h8
  clear cq
  clear h hp hG hbs hb0 hq
  go_enter Tryz.func11, Tryz.ntmps11
  go_wp2_with ((go_at_call 34; refine (racquire2_any key _ H.out HP.out).mono ?_; rintro e w3 ⟨rfl, hD, hP, hF⟩; have X := Lib.hid hD; have Y := Lib.hid hP; have Z := Lib.hid hF; clear hD hP hF))
  go_ret2
  exact ⟨rfl, X.out, Y.out, (FrG.ofBelow HB.out).trans Z.out⟩
set_option maxHeartbeats 8000000 in
set_option maxRecDepth 1000000 in
theorem rkkill (pv : Option Addr) (dn : Nat) (key at_ : Int) (A' : Option Addr) (bs : List UInt8) (c' : Nat) (fo : Bool) (q0 q1 : Nat) (w : World) (hq : (if dn % 2 = 1 then q1 else q0) = pd) (h : IsRDisk w G pd pp D) (hp : IsRPow w G pp P) (hG : ∀ k, w.heap.size ≤ k → G k) (hfl : D.fl.length ≤ 1000000) (hlen : D.c.l.length ≤ 900000) (hbs : ∀ w', FrG G rdiskTs w w' → BytesRd w' A' bs) (hcap : bs.length ≤ c') (h63 : bs.length ≤ 140737488351232) (hdn : dn < 256) :
    Calls Tryz.prog 11 #[.pointer pv, .agg #[.pointer (some ⟨q0, 0, none⟩), .pointer (some ⟨q1, 0, none⟩)], .agg #[.int .u8 (dn : Int), .int .u8 5, .int .u64 key, .int .i64 at_, .slice A' bs.length c', .bool fo]] w (RActOut G pd pp ⟨0, { D with dead := true }, P⟩ [] w) := by
  have hlt0 : pd < w.heap.size := by obtain ⟨pc9, A9, c9, h9⟩ := h; exact h9.hasD.lt
  have HW := Lib.hid h
  have HPW := Lib.hid hp
  have hb0 := wantBox_below w q0 q1 (dn : Int) 5 key at_ (.slice A' bs.length c') fo
  have H := Lib.hid (h.below hb0)
  have HP := Lib.hid (hp.below hb0)
  have HB := Lib.hid hb0
  have HG := Lib.hid (fun k (hk : (wantBox w q0 q1 (dn : Int) 5 key at_ (.slice A' bs.length c') fo).heap.size ≤ k) => hG k (Nat.le_trans hb0.size hk))
  have Hbs := Lib.hid (fun w' hF => hbs w' ((FrG.ofBelow hb0).trans hF))
  have cq : [Value.pointer (some ⟨q0, 0, none⟩), .pointer (some ⟨q1, 0, none⟩)][dn % 2]? = some (.pointer (some ⟨pd, 0, none⟩)) := by rw [pair2_at, ← hq]; split <;> rfl
  have hd2 : dn % 2 < 2 := by omega
  have cq2 : ∀ h9, [Value.pointer (some ⟨q0, 0, none⟩), .pointer (some ⟨q1, 0, none⟩)][dn % 2]'h9 = .pointer (some ⟨pd, 0, none⟩) := by intro h9; have h8 := cq; rw [List.getElem?_eq_getElem h9] at h8; exact Option.some.inj h8
  clear cq
  clear h hp hG hbs hb0 hq
  obtain ⟨pc, A, c, h1⟩ := H.out
  obtain ⟨_, _, _, _, k9, _, _, _, _, _, _, hl⟩ := h1.cells
  have f9 := h1.fz 9
  have hl2 : pd < w.heap.size := hlt0
  have hn1 : ¬ pd = w.heap.size := by omega
  have hn2 : ¬ pd = w.heap.size + 1 := by omega
  have H1 := Lib.hid h1
  clear h1
  go_enter Tryz.func11, Tryz.ntmps11
  go_wp2
  go_ret2
  obtain ⟨pc0, A0, c0, h0⟩ := HW.out
  obtain ⟨g1, g2⟩ := h0.store (D' := { D with dead := true }) (i := 9) (v := .bool true) rfl rfl rfl rfl
  have g3 := IsRPow.setD HPW.out h0.hasD 9 (.bool true)
  have hb9 := wantBox_below (w.setCell ⟨pd, 9, none⟩ (.bool true)) q0 q1 (dn : Int) 5 key at_ (.slice A' bs.length c') fo
  exact ⟨rfl, (show IsRDisk _ G pd pp _ from ⟨pc0, A0, c0, g1⟩).below hb9, g3.below hb9, g2.call hb9⟩

set_option maxHeartbeats 8000000 in
set_option maxRecDepth 1000000 in
theorem rkrestart (pv : Option Addr) (dn : Nat) (key at_ : Int) (A' : Option Addr) (bs : List UInt8) (c' : Nat) (fo : Bool) (q0 q1 : Nat) (w : World) (hq : (if dn % 2 = 1 then q1 else q0) = pd) (h : IsRDisk w G pd pp D) (hp : IsRPow w G pp P) (hG : ∀ k, w.heap.size ≤ k → G k) (hfl : D.fl.length ≤ 1000000) (hlen : D.c.l.length ≤ 900000) (hbs : ∀ w', FrG G rdiskTs w w' → BytesRd w' A' bs) (hcap : bs.length ≤ c') (h63 : bs.length ≤ 140737488351232) (hdn : dn < 256) :
    Calls Tryz.prog 11 #[.pointer pv, .agg #[.pointer (some ⟨q0, 0, none⟩), .pointer (some ⟨q1, 0, none⟩)], .agg #[.int .u8 (dn : Int), .int .u8 6, .int .u64 key, .int .i64 at_, .slice A' bs.length c', .bool fo]] w (RActOut G pd pp (D.restartO P at_) [] w) := by
  have hb0 := wantBox_below w q0 q1 (dn : Int) 6 key at_ (.slice A' bs.length c') fo
  have H := Lib.hid (h.below hb0)
  have HP := Lib.hid (hp.below hb0)
  have HB := Lib.hid hb0
  have HG := Lib.hid (fun k (hk : (wantBox w q0 q1 (dn : Int) 6 key at_ (.slice A' bs.length c') fo).heap.size ≤ k) => hG k (Nat.le_trans hb0.size hk))
  have Hbs := Lib.hid (fun w' hF => hbs w' ((FrG.ofBelow hb0).trans hF))
  have cq : [Value.pointer (some ⟨q0, 0, none⟩), .pointer (some ⟨q1, 0, none⟩)][dn % 2]? = some (.pointer (some ⟨pd, 0, none⟩)) := by rw [pair2_at, ← hq]; split <;> rfl
  have hd2 : dn % 2 < 2 := by omega
  have cq2 : ∀ h9, [Value.pointer (some ⟨q0, 0, none⟩), .pointer (some ⟨q1, 0, none⟩)][dn % 2]'h9 = .pointer (some ⟨pd, 0, none⟩) := by intro h9; have h8 := cq; rw [List.getElem?_eq_getElem h9] at h8; exact Option.some.inj h8
  clear cq
  clear h hp hG hbs hb0 hq
  go_enter Tryz.func11, Tryz.ntmps11
  go_wp2_with ((go_at_call 35; refine (rrestart_any at_ _ H.out HP.out (by omega)).mono ?_; rintro e w3 ⟨rfl, hD, hP, hF⟩; have X := Lib.hid hD; have Y := Lib.hid hP; have Z := Lib.hid hF; clear hD hP hF))
  go_ret2
  exact ⟨rfl, X.out, Y.out, (FrG.ofBelow HB.out).trans Z.out⟩
set_option maxHeartbeats 8000000 in
set_option maxRecDepth 1000000 in
theorem rkarm (dn : Nat) (key at_ : Int) (A' : Option Addr) (bs : List UInt8) (c' : Nat) (fo : Bool) (q0 q1 : Nat) (w : World) (hq : (if dn % 2 = 1 then q1 else q0) = pd) (h : IsRDisk w G pd pp D) (hp : IsRPow w G pp P) (hG : ∀ k, w.heap.size ≤ k → G k) (hfl : D.fl.length ≤ 1000000) (hlen : D.c.l.length ≤ 900000) (hbs : ∀ w', FrG G rdiskTs w w' → BytesRd w' A' bs) (hcap : bs.length ≤ c') (h63 : bs.length ≤ 140737488351232) (hdn : dn < 256) :
    Calls Tryz.prog 11 #[.pointer (some ⟨pp, 0, none⟩), .agg #[.pointer (some ⟨q0, 0, none⟩), .pointer (some ⟨q1, 0, none⟩)], .agg #[.int .u8 (dn : Int), .int .u8 7, .int .u64 key, .int .i64 at_, .slice A' bs.length c', .bool fo]] w (RActOut G pd pp ⟨0, D, P.arm at_⟩ [] w) := by
  have hb0 := wantBox_below w q0 q1 (dn : Int) 7 key at_ (.slice A' bs.length c') fo
  have H := Lib.hid (h.below hb0)
  have HP := Lib.hid (hp.below hb0)
  have HB := Lib.hid hb0
  have HG := Lib.hid (fun k (hk : (wantBox w q0 q1 (dn : Int) 7 key at_ (.slice A' bs.length c') fo).heap.size ≤ k) => hG k (Nat.le_trans hb0.size hk))
  have Hbs := Lib.hid (fun w' hF => hbs w' ((FrG.ofBelow hb0).trans hF))
  have cq : [Value.pointer (some ⟨q0, 0, none⟩), .pointer (some ⟨q1, 0, none⟩)][dn % 2]? = some (.pointer (some ⟨pd, 0, none⟩)) := by rw [pair2_at, ← hq]; split <;> rfl
  have hd2 : dn % 2 < 2 := by omega
  have cq2 : ∀ h9, [Value.pointer (some ⟨q0, 0, none⟩), .pointer (some ⟨q1, 0, none⟩)][dn % 2]'h9 = .pointer (some ⟨pd, 0, none⟩) := by intro h9; have h8 := cq; rw [List.getElem?_eq_getElem h9] at h8; exact Option.some.inj h8
  clear cq
  clear h hp hG hbs hb0 hq
  go_enter Tryz.func11, Tryz.ntmps11
  go_wp2_with ((go_at_call 36; refine (rarm_any at_ _ HP.out).mono ?_; rintro e w3 ⟨rfl, hP, hF⟩; have X := Lib.hid (H.out.frP HP.out hF); have Y := Lib.hid hP; have Z := Lib.hid (rfrG_pow HP.out hF); clear hP hF))
  go_ret2
  exact ⟨rfl, X.out, Y.out, (FrG.ofBelow HB.out).trans Z.out⟩
set_option maxHeartbeats 8000000 in
set_option maxRecDepth 1000000 in
theorem rkon (dn : Nat) (key at_ : Int) (A' : Option Addr) (bs : List UInt8) (c' : Nat) (fo : Bool) (q0 q1 : Nat) (w : World) (hq : (if dn % 2 = 1 then q1 else q0) = pd) (h : IsRDisk w G pd pp D) (hp : IsRPow w G pp P) (hG : ∀ k, w.heap.size ≤ k → G k) (hfl : D.fl.length ≤ 1000000) (hlen : D.c.l.length ≤ 900000) (hbs : ∀ w', FrG G rdiskTs w w' → BytesRd w' A' bs) (hcap : bs.length ≤ c') (h63 : bs.length ≤ 140737488351232) (hdn : dn < 256) :
    Calls Tryz.prog 11 #[.pointer (some ⟨pp, 0, none⟩), .agg #[.pointer (some ⟨q0, 0, none⟩), .pointer (some ⟨q1, 0, none⟩)], .agg #[.int .u8 (dn : Int), .int .u8 8, .int .u64 key, .int .i64 at_, .slice A' bs.length c', .bool fo]] w (RActOut G pd pp ⟨0, D, P.on⟩ [] w) := by
  have hb0 := wantBox_below w q0 q1 (dn : Int) 8 key at_ (.slice A' bs.length c') fo
  have H := Lib.hid (h.below hb0)
  have HP := Lib.hid (hp.below hb0)
  have HB := Lib.hid hb0
  have HG := Lib.hid (fun k (hk : (wantBox w q0 q1 (dn : Int) 8 key at_ (.slice A' bs.length c') fo).heap.size ≤ k) => hG k (Nat.le_trans hb0.size hk))
  have Hbs := Lib.hid (fun w' hF => hbs w' ((FrG.ofBelow hb0).trans hF))
  have cq : [Value.pointer (some ⟨q0, 0, none⟩), .pointer (some ⟨q1, 0, none⟩)][dn % 2]? = some (.pointer (some ⟨pd, 0, none⟩)) := by rw [pair2_at, ← hq]; split <;> rfl
  have hd2 : dn % 2 < 2 := by omega
  have cq2 : ∀ h9, [Value.pointer (some ⟨q0, 0, none⟩), .pointer (some ⟨q1, 0, none⟩)][dn % 2]'h9 = .pointer (some ⟨pd, 0, none⟩) := by intro h9; have h8 := cq; rw [List.getElem?_eq_getElem h9] at h8; exact Option.some.inj h8
  clear cq
  clear h hp hG hbs hb0 hq
  go_enter Tryz.func11, Tryz.ntmps11
  go_wp2_with ((go_at_call 37; refine (ron_any _ HP.out).mono ?_; rintro e w3 ⟨rfl, hP, hF⟩; have X := Lib.hid (H.out.frP HP.out hF); have Y := Lib.hid hP; have Z := Lib.hid (rfrG_pow HP.out hF); clear hP hF))
  go_ret2
  exact ⟨rfl, X.out, Y.out, (FrG.ofBelow HB.out).trans Z.out⟩
set_option maxHeartbeats 8000000 in
set_option maxRecDepth 1000000 in
theorem rkelse (kn : Nat) (hkn : 9 ≤ kn) (hk256 : kn < 256) (pv : Option Addr) (dn : Nat) (key at_ : Int) (A' : Option Addr) (bs : List UInt8) (c' : Nat) (fo : Bool) (q0 q1 : Nat) (w : World) (hq : (if dn % 2 = 1 then q1 else q0) = pd) (h : IsRDisk w G pd pp D) (hp : IsRPow w G pp P) (hG : ∀ k, w.heap.size ≤ k → G k) (hfl : D.fl.length ≤ 1000000) (hlen : D.c.l.length ≤ 900000) (hbs : ∀ w', FrG G rdiskTs w w' → BytesRd w' A' bs) (hcap : bs.length ≤ c') (h63 : bs.length ≤ 140737488351232) (hdn : dn < 256) :
    Calls Tryz.prog 11 #[.pointer pv, .agg #[.pointer (some ⟨q0, 0, none⟩), .pointer (some ⟨q1, 0, none⟩)], .agg #[.int .u8 (dn : Int), .int .u8 (kn : Int), .int .u64 key, .int .i64 at_, .slice A' bs.length c', .bool fo]] w (RActOut G pd pp ⟨0, D, P⟩ [] w) := by
  have hb0 := wantBox_below w q0 q1 (dn : Int) (kn : Int) key at_ (.slice A' bs.length c') fo
  have H := Lib.hid (h.below hb0)
  have HP := Lib.hid (hp.below hb0)
  have HB := Lib.hid hb0
  have HG := Lib.hid (fun k (hk : (wantBox w q0 q1 (dn : Int) (kn : Int) key at_ (.slice A' bs.length c') fo).heap.size ≤ k) => hG k (Nat.le_trans hb0.size hk))
  have Hbs := Lib.hid (fun w' hF => hbs w' ((FrG.ofBelow hb0).trans hF))
  have cq : [Value.pointer (some ⟨q0, 0, none⟩), .pointer (some ⟨q1, 0, none⟩)][dn % 2]? = some (.pointer (some ⟨pd, 0, none⟩)) := by rw [pair2_at, ← hq]; split <;> rfl
  have hd2 : dn % 2 < 2 := by omega
  have cq2 : ∀ h9, [Value.pointer (some ⟨q0, 0, none⟩), .pointer (some ⟨q1, 0, none⟩)][dn % 2]'h9 = .pointer (some ⟨pd, 0, none⟩) := by intro h9; have h8 := cq; rw [List.getElem?_eq_getElem h9] at h8; exact Option.some.inj h8
  clear cq
  have b0 : ((kn : Int) == 0) = false := by simp only [beq_eq_false_iff_ne, ne_eq]; omega
  have b1 : ((kn : Int) == 1) = false := by simp only [beq_eq_false_iff_ne, ne_eq]; omega
  have b2 : ((kn : Int) == 2) = false := by simp only [beq_eq_false_iff_ne, ne_eq]; omega
  have b3 : ((kn : Int) == 3) = false := by simp only [beq_eq_false_iff_ne, ne_eq]; omega
  have b4 : ((kn : Int) == 4) = false := by simp only [beq_eq_false_iff_ne, ne_eq]; omega
  have b5 : ((kn : Int) == 5) = false := by simp only [beq_eq_false_iff_ne, ne_eq]; omega
  have b6 : ((kn : Int) == 6) = false := by simp only [beq_eq_false_iff_ne, ne_eq]; omega
  have b7 : ((kn : Int) == 7) = false := by simp only [beq_eq_false_iff_ne, ne_eq]; omega
  have b8 : ((kn : Int) == 8) = false := by simp only [beq_eq_false_iff_ne, ne_eq]; omega
  clear h hp hG hbs hb0 hq
  go_enter Tryz.func11, Tryz.ntmps11
  go_wp2_with fail
  go_ret2
  exact ⟨rfl, H.out, HP.out, FrG.ofBelow HB.out⟩

/-- An act on a disk of the program. -/
theorem want14_any (pv : Option Addr) (a : Act) (hpv : a.op = true ∨ pv = some ⟨pp, 0, none⟩) (A' : Option Addr) (c' : Nat) (q0 q1 : Nat) (w : World) (hq : (if a.side then q1 else q0) = pd) (h : IsRDisk w G pd pp D) (hp : IsRPow w G pp P) (hG : ∀ k, w.heap.size ≤ k → G k) (hfl : D.fl.length ≤ 1000000) (hlen : D.c.l.length ≤ 900000) (hbs : ∀ w', FrG G rdiskTs w w' → BytesRd w' A' a.bs) (hcap : a.bs.length ≤ c') (h63 : a.bs.length ≤ 140737488351232) :
    Calls Tryz.prog 11 #[.pointer pv, .agg #[.pointer (some ⟨q0, 0, none⟩), .pointer (some ⟨q1, 0, none⟩)], .agg #[.int .u8 (a.disk.toNat : Int), .int .u8 (a.kind.toNat : Int), .int .u64 a.key, .int .i64 a.at_, .slice A' a.bs.length c', .bool a.force]] w (RActOut G pd pp (D.actO P a) (D.actB P a) w) := by
  obtain ⟨dk, kd, key, at_, bs, fo⟩ := a
  have hdn : dk.toNat < 256 := dk.toNat_lt
  have hq' : (if dk.toNat % 2 = 1 then q1 else q0) = pd := by rw [← hq]; unfold Act.side; simp
  simp only at hbs hcap h63 ⊢
  by_cases k0 : kd = 0
  · subst k0
    exact rkread pv dk.toNat key at_ A' bs c' fo q0 q1 w hq' h hp hG hfl hlen hbs hcap h63 hdn
  by_cases k1 : kd = 1
  · subst k1
    exact rkwrite pv dk.toNat key at_ A' bs c' fo q0 q1 w hq' h hp hG hfl hlen hbs hcap h63 hdn
  by_cases k2 : kd = 2
  · subst k2
    exact rkerase pv dk.toNat key at_ A' bs c' fo q0 q1 w hq' h hp hG hfl hlen hbs hcap h63 hdn
  by_cases k3 : kd = 3
  · subst k3
    exact rkflush pv dk.toNat key at_ A' bs c' fo q0 q1 w hq' h hp hG hfl hlen hbs hcap h63 hdn
  by_cases k4 : kd = 4
  · subst k4
    exact rkacquire pv dk.toNat key at_ A' bs c' fo q0 q1 w hq' h hp hG hfl hlen hbs hcap h63 hdn
  by_cases k5 : kd = 5
  · subst k5
    exact rkkill pv dk.toNat key at_ A' bs c' fo q0 q1 w hq' h hp hG hfl hlen hbs hcap h63 hdn
  by_cases k6 : kd = 6
  · subst k6
    exact rkrestart pv dk.toNat key at_ A' bs c' fo q0 q1 w hq' h hp hG hfl hlen hbs hcap h63 hdn
  by_cases k7 : kd = 7
  · subst k7
    have e9 : pv = some ⟨pp, 0, none⟩ := hpv.resolve_left (by unfold Act.op; simp)
    subst e9
    exact rkarm dk.toNat key at_ A' bs c' fo q0 q1 w hq' h hp hG hfl hlen hbs hcap h63 hdn
  by_cases k8 : kd = 8
  · subst k8
    have e9 : pv = some ⟨pp, 0, none⟩ := hpv.resolve_left (by unfold Act.op; simp)
    subst e9
    exact rkon dk.toNat key at_ A' bs c' fo q0 q1 w hq' h hp hG hfl hlen hbs hcap h63 hdn
  have key9 : 9 ≤ kd.toNat := by
    have f : ∀ n : UInt8, kd ≠ n → kd.toNat ≠ n.toNat := fun n hn e => hn (UInt8.toNat_inj.1 e)
    have f0 := f 0 k0
    have f1 := f 1 k1
    have f2 := f 2 k2
    have f3 := f 3 k3
    have f4 := f 4 k4
    have f5 := f 5 k5
    have f6 := f 6 k6
    have f7 := f 7 k7
    have f8 := f 8 k8
    simp at f0 f1 f2 f3 f4 f5 f6 f7 f8
    omega
  have e1 : D.actO P ⟨dk, kd, key, at_, bs, fo⟩ = ⟨0, D, P⟩ := by unfold Dsk.actO; simp only; rw [if_neg k0, if_neg k1, if_neg k2, if_neg k3, if_neg k4, if_neg k5, if_neg k6, if_neg k7, if_neg k8]
  have e2 : D.actB P ⟨dk, kd, key, at_, bs, fo⟩ = [] := by unfold Dsk.actB; simp only; rw [if_neg k0]
  rw [e1, e2]
  exact rkelse kd.toNat key9 kd.toNat_lt pv dk.toNat key at_ A' bs c' fo q0 q1 w hq' h hp hG hfl hlen hbs hcap h63 hdn
end
end Go.Proofs.YtmloiifnadaaoaaGreat
