/- Acts on pairs of disks: what do and want leave; lists of acts in memory. -/
import Derived.Test.YtmloiifnadaaoaaGreatActW
import Derived.Test.YtmloiifnadaaoaaGreatLawW
import Derived.Test.YtmloiifnadaaoaaGreatDskL1
namespace Go.Proofs.YtmloiifnadaaoaaGreat
open Go.RowKit
set_option linter.unusedVariables false
set_option linter.unusedSimpArgs false

/-- The numbers of operations and faults stay small. -/
structure Small (D : Bool → Dsk) : Prop where
  fl : ∀ i, (D i).fl.length ≤ 1000000
  ln : ∀ i, (D i).c.l.length ≤ 900000
def DoTwo (B pp : Nat) (q : Bool → Nat) (P : Pow) (D : Bool → Dsk) (a : Act) (w : World) (e : Ending) (w' : World) : Prop :=
  e = .returned (.tuple #[.string ⟨((D a.side).actB P a).toArray⟩, .int .i64 ((D a.side).actO P a).e]) ∧ Two w' B pp q ((D a.side).actO P a).p (upd D a.side ((D a.side).actO P a).d) ∧ (∃ G : Nat → Prop, FrG G diskTs w w') ∧ Below B w w'
theorem side_q (a : Act) (q : Bool → Nat) : (if a.side then q true else q false) = q a.side := by cases a.side <;> rfl
theorem do_two (B pp : Nat) (q : Bool → Nat) (P : Pow) (D : Bool → Dsk) (a : Act) (A' : Option Addr) (c' : Nat) (w : World) (h : Two w B pp q P D) (hs : Small D) (hb : BytesB w B A' a.bs) (hcap : a.bs.length ≤ c') (h63 : a.bs.length ≤ 140737488351232) :
    Calls Tryz.prog 10 #[.agg #[.pointer (some ⟨pp, 0, none⟩), .pointer (some ⟨q false, 0, none⟩), .pointer (some ⟨q true, 0, none⟩)], .agg #[.int .u8 (a.disk.toNat : Int), .int .u8 (a.kind.toNat : Int), .int .u64 a.key, .int .i64 a.at_, .slice A' a.bs.length c', .bool a.force]] w (DoTwo B pp q P D a w) := by
  obtain ⟨F, T⟩ := h
  refine (do14_any (G := At F a.side pp w.heap.size) (pd := q a.side) (D := D a.side) (P := P) a A' c' (q false) (q true) w (side_q a q) (T.one _) (T.pone _) (TwoAt.new _) (hs.fl _) (hs.ln _) (fun w' hF => (hb.below (T.bel hF)).rd) hcap h63).mono ?_
  rintro e w' ⟨rfl, hD, hP, hF⟩
  exact ⟨rfl, T.step hD hP hF, ⟨_, hF⟩, T.bel hF⟩
def WantTwo (B pp : Nat) (q : Bool → Nat) (P : Pow) (D : Bool → Dsk) (a : Act) (w : World) (e : Ending) (w' : World) : Prop :=
  e = .returned (.tuple #[.string ⟨((D a.side).actB P a).toArray⟩, .int .i64 ((D a.side).actO P a).e]) ∧ RTwo w' B pp q ((D a.side).actO P a).p (upd D a.side ((D a.side).actO P a).d) ∧ (∃ G : Nat → Prop, FrG G rdiskTs w w') ∧ Below B w w'
theorem want_two (B pp : Nat) (q : Bool → Nat) (P : Pow) (D : Bool → Dsk) (pv : Option Addr) (a : Act) (A' : Option Addr) (c' : Nat) (w : World) (hpv : a.op = true ∨ pv = some ⟨pp, 0, none⟩) (h : RTwo w B pp q P D) (hs : Small D) (hb : BytesB w B A' a.bs) (hcap : a.bs.length ≤ c') (h63 : a.bs.length ≤ 140737488351232) :
    Calls Tryz.prog 11 #[.pointer pv, .agg #[.pointer (some ⟨q false, 0, none⟩), .pointer (some ⟨q true, 0, none⟩)], .agg #[.int .u8 (a.disk.toNat : Int), .int .u8 (a.kind.toNat : Int), .int .u64 a.key, .int .i64 a.at_, .slice A' a.bs.length c', .bool a.force]] w (WantTwo B pp q P D a w) := by
  obtain ⟨F, T⟩ := h
  refine (want14_any (G := At F a.side pp w.heap.size) (pd := q a.side) (D := D a.side) (P := P) pv a hpv A' c' (q false) (q true) w (side_q a q) (T.one _) (T.pone _) (TwoAt.new _) (hs.fl _) (hs.ln _) (fun w' hF => (hb.below (T.bel hF)).rd) hcap h63).mono ?_
  rintro e w' ⟨rfl, hD, hP, hF⟩
  exact ⟨rfl, T.step hD hP hF, ⟨_, hF⟩, T.bel hF⟩
theorem Small.upd {D : Bool → Dsk} (h : Small D) {i : Bool} {d : Dsk} (h1 : d.fl.length ≤ 1000000) (h2 : d.c.l.length ≤ 900000) : Small (upd D i d) := by
  constructor <;> intro j <;> by_cases e : j = i
  · subst e; rw [upd_same]; exact h1
  · rw [upd_other _ e]; exact h.fl j
  · subst e; rw [upd_same]; exact h2
  · rw [upd_other _ e]; exact h.ln j

/-- Acts in a row of the call's own, from the j-th on. -/
def ActsAt (w : World) (B : Nat) (A : Option Addr) (l : List Act) (j : Nat) : Prop :=
  l = [] ∨ ∃ g xs, A = some ⟨g, 0, none⟩ ∧ B ≤ g ∧ Row 55 g xs w ∧ ∀ (i : Nat) (a : Act), j ≤ i → l[i]? = some a → ∃ A' c', (∀ k, k < 6 → xs[i * 6 + k]? = (actVals a A' c')[k]?) ∧ BytesB w B A' a.bs ∧ a.bs.length ≤ c'
theorem ActsAt.of {w : World} {B base : Nat} {v : Value} {l : List Act} (h : ActRow w B base v l) (hB : B ≤ base) : ∃ A c, v = .slice A l.length c ∧ ActsAt w B A l 0 := by
  obtain ⟨xs, hr, hx⟩ := h
  have hlen := hr.1
  rcases hr.2 with ⟨rfl, hn⟩ | ⟨g, cap, cur, rfl, hb, hg, hnc, _, hsz, ht⟩
  · exact ⟨none, 0, by rw [hn], .inl (List.eq_nil_of_length_eq_zero hn)⟩
  · refine ⟨_, _, rfl, .inr ⟨g, cur, rfl, by omega, hg, fun i a _ ha => ?_⟩⟩
    obtain ⟨A', c', h1, h2, h3⟩ := hx i a ha
    have hi := (List.getElem?_eq_some_iff.1 ha).1
    refine ⟨A', c', fun k hk => ?_, h2, h3⟩
    rw [← h1 k hk, ← ht, List.getElem?_take, if_pos (by omega), Array.getElem?_toList]
theorem ActsAt.frG {w w' : World} {B : Nat} {A : Option Addr} {l : List Act} {j : Nat} {G : Nat → Prop} {Ts : List TypeId} (h : ActsAt w B A l j) (hF : FrG G Ts w w') (hb : Below B w w') (hT : Ts.all (fun T => ![55].contains T) = true) : ActsAt w' B A l j := by
  refine h.imp id ?_
  rintro ⟨g, xs, h1, h2, h3, h4⟩
  refine ⟨g, xs, h1, h2, h3.fr hF ((avoid_TG hT).not h3.hasT (by simp)), fun i a hi ha => ?_⟩
  obtain ⟨A', c', k1, k2, k3⟩ := h4 i a hi ha
  exact ⟨A', c', k1, k2.below hb, k3⟩
theorem ActsAt.below {w w' : World} {B : Nat} {A : Option Addr} {l : List Act} {j : Nat} (h : ActsAt w B A l j) (hB : B ≤ w.heap.size) (hb : Below w.heap.size w w') : ActsAt w' B A l j :=
  h.frG (FrG.ofBelow (G := fun _ => False) (Ts := []) hb) (hb.mono hB) rfl
theorem ActsAt.get {w : World} {B : Nat} {A : Option Addr} {l : List Act} {j : Nat} (h : ActsAt w B A l j) {a : Act} (ha : l[j]? = some a) : ∃ g xs A' c', A = some ⟨g, 0, none⟩ ∧ B ≤ g ∧ Row 55 g xs w ∧ (∀ k, k < 6 → xs[j * 6 + k]? = (actVals a A' c')[k]?) ∧ BytesB w B A' a.bs ∧ a.bs.length ≤ c' := by
  rcases h with rfl | ⟨g, xs, h1, h2, h3, h4⟩
  · simp at ha
  · obtain ⟨A', c', k1, k2, k3⟩ := h4 j a (Nat.le_refl _) ha
    exact ⟨g, xs, A', c', h1, h2, h3, k1, k2, k3⟩
/-- The j-th act is made one of the first disk. -/
theorem ActsAt.store {w : World} {B : Nat} {A : Option Addr} {l : List Act} {j g : Nat} (h : ActsAt w B A l j) (hA : A = some ⟨g, 0, none⟩) (hBw : B ≤ w.heap.size) : ActsAt (w.setCell ⟨g, j * 6, none⟩ (.int .u8 0)) B A l (j + 1) := by
  refine h.imp id ?_
  rintro ⟨g', xs, h1, h2, h3, h4⟩
  rw [hA] at h1
  obtain rfl : g = g' := by injection h1 with h1; injection h1
  refine ⟨g, _, hA, h2, h3.set (j * 6) _, fun i a hi ha => ?_⟩
  obtain ⟨A', c', k1, k2, k3⟩ := h4 i a (by omega) ha
  exact ⟨A', c', fun k hk => by rw [Array.getElem?_setIfInBounds_ne (by omega)]; exact k1 k hk, k2.below ((Below.refl B w).setCell h2 _), k3⟩
/-- What a round reads: the pair's three cells, the act's six. -/
def HeldA (nx : Nat) (p0 p1 p2 : Value) (g k : Nat) (u0 u1 u2 u3 u4 u5 : Value) (W : World) : Prop :=
  W.cell? ⟨nx, 0, none⟩ = some p0 ∧ W.cell? ⟨nx, 1, none⟩ = some p1 ∧ W.cell? ⟨nx, 2, none⟩ = some p2 ∧ W.cell? ⟨g, k, none⟩ = some u0 ∧ W.cell? ⟨g, k + 1, none⟩ = some u1 ∧ W.cell? ⟨g, k + 2, none⟩ = some u2 ∧ W.cell? ⟨g, k + 3, none⟩ = some u3 ∧ W.cell? ⟨g, k + 4, none⟩ = some u4 ∧ W.cell? ⟨g, k + 5, none⟩ = some u5
theorem HeldA.keep {nx : Nat} {p0 p1 p2 : Value} {g k : Nat} {u0 u1 u2 u3 u4 u5 : Value} {W W' : World} {S : Nat → Prop} (h : HeldA nx p0 p1 p2 g k u0 u1 u2 u3 u4 u5 W) (hF : Fr S W W') (h1 : ¬ S nx) (h2 : ¬ S g) : HeldA nx p0 p1 p2 g k u0 u1 u2 u3 u4 u5 W' :=
  ⟨hF.cell h.1 h1, hF.cell h.2.1 h1, hF.cell h.2.2.1 h1, hF.cell h.2.2.2.1 h2, hF.cell h.2.2.2.2.1 h2, hF.cell h.2.2.2.2.2.1 h2, hF.cell h.2.2.2.2.2.2.1 h2, hF.cell h.2.2.2.2.2.2.2.1 h2, hF.cell h.2.2.2.2.2.2.2.2 h2⟩
theorem HeldA.drew {nx : Nat} {p0 p1 p2 : Value} {g k : Nat} {u0 u1 u2 u3 u4 u5 : Value} {W : World} (h : HeldA nx p0 p1 p2 g k u0 u1 u2 u3 u4 u5 W) : HeldA nx p0 p1 p2 g k u0 u1 u2 u3 u4 u5 W.drew := h.keep (Fr.ofBelow (Below.refl _ _).drew (fun _ => False)) id id
/-- What was read stands behind an act. -/
theorem HeldA.frG {nx : Nat} {p0 p1 p2 : Value} {g k : Nat} {u0 u1 u2 u3 u4 u5 : Value} {W W' : World} {G : Nat → Prop} {Ts : List TypeId} (h : HeldA nx p0 p1 p2 g k u0 u1 u2 u3 u4 u5 W) (hF : FrG G Ts W W') (hx : HasT W nx 35) (hg : HasT W g 55) (hT : Ts.all (fun T => ![35, 55].contains T) = true) : HeldA nx p0 p1 p2 g k u0 u1 u2 u3 u4 u5 W' :=
  h.keep hF ((avoid_TG hT).not hx (by simp)) ((avoid_TG hT).not hg (by simp))
/-- The j-th act, made one of the first disk: what a round then reads. -/
theorem acts_first {w : World} {B : Nat} {A : Option Addr} {l : List Act} {j nx : Nat} {a : Act} {p0 p1 p2 : Option Addr} (h : ActsAt w B A l j) (ha : l[j]? = some a) (hx : Row 35 nx (pairCells p0 p1 p2) w) (hBw : B ≤ w.heap.size) :
    ∃ g A' c', A = some ⟨g, 0, none⟩ ∧ B ≤ g ∧ HasT w g 55 ∧ ¬ g = nx ∧ g < w.heap.size ∧ w.cell? ⟨g, j * 6, none⟩ = some (.int .u8 (a.disk.toNat : Int)) ∧ w.frozen? ⟨g, j * 6, none⟩ = false ∧ a.bs.length ≤ c' ∧ BytesB w B A' a.bs ∧
      HeldA nx (.pointer p0) (.pointer p1) (.pointer p2) g (j * 6) (.int .u8 0) (.int .u8 (a.kind.toNat : Int)) (.int .u64 a.key) (.int .i64 a.at_) (.slice A' a.bs.length c') (.bool a.force) (w.setCell ⟨g, j * 6, none⟩ (.int .u8 0)) := by
  obtain ⟨g, xs, A', c', rfl, h2, h3, h4, h5, h6⟩ := h.get ha
  have hne : ¬ g = nx := fun e => (h3.hasT.ne hx.hasT (by decide)) e
  have hR := h3.set (j * 6) (.int .u8 0)
  have hX := hx.other (k := g) hne (j * 6) (.int .u8 0)
  have c0 := h4 0 (by omega)
  have c1 := h4 1 (by omega)
  have c2 := h4 2 (by omega)
  have c3 := h4 3 (by omega)
  have c4 := h4 4 (by omega)
  have c5 := h4 5 (by omega)
  have hlt : j * 6 < xs.size := (Array.getElem?_eq_some_iff.1 (show xs[j * 6]? = some _ from c0)).1
  refine ⟨g, A', c', rfl, h2, h3.hasT, hne, h3.lt, h3.cell c0, h3.fz _, h6, h5, hX.cell (i := 0) rfl, hX.cell (i := 1) rfl, hX.cell (i := 2) rfl, hR.cell ?_, hR.cell ?_, hR.cell ?_, hR.cell ?_, hR.cell ?_, hR.cell ?_⟩
  · rw [Array.getElem?_setIfInBounds_self, if_pos hlt]
  · rw [Array.getElem?_setIfInBounds_ne (by omega)]; exact c1
  · rw [Array.getElem?_setIfInBounds_ne (by omega)]; exact c2
  · rw [Array.getElem?_setIfInBounds_ne (by omega)]; exact c3
  · rw [Array.getElem?_setIfInBounds_ne (by omega)]; exact c4
  · rw [Array.getElem?_setIfInBounds_ne (by omega)]; exact c5
theorem Two.act {w : World} {B pp : Nat} {q : Bool → Nat} {P : Pow} {D : Bool → Dsk} (h : Two w B pp q P D) {g : Nat} (hg : HasT w g 55) (i : Nat) (v : Value) : Two (w.setCell ⟨g, i, none⟩ v) B pp q P D := h.keepA (fr_one w g i v) (avoid_one hg (by decide)) (avoid_one hg (by decide))
theorem RTwo.act {w : World} {B pp : Nat} {q : Bool → Nat} {P : Pow} {D : Bool → Dsk} (h : RTwo w B pp q P D) {g : Nat} (hg : HasT w g 55) (i : Nat) (v : Value) : RTwo (w.setCell ⟨g, i, none⟩ v) B pp q P D := h.keepA (fr_one w g i v) (avoid_one hg (by decide)) (avoid_one hg (by decide))
theorem Two.box {w : World} {B pp : Nat} {q : Bool → Nat} {P : Pow} {D : Bool → Dsk} (h : Two w B pp q P D) {g : Nat} (hg : HasT w g 35) (i : Nat) (v : Value) : Two (w.setCell ⟨g, i, none⟩ v) B pp q P D := h.keepA (fr_one w g i v) (avoid_one hg (by decide)) (avoid_one hg (by decide))
end Go.Proofs.YtmloiifnadaaoaaGreat
/- Helpers of the laws on acts; the law DiskFences. -/
namespace Go.Proofs.YtmloiifnadaaoaaGreat
open Go.RowKit
set_option linter.unusedVariables false
set_option linter.unusedSimpArgs false

theorem fair14_at {w0 : World} {r b t s o : Int} {A0 : Option Addr} {l0 : List Flt} {c0 : Nat} {A1 : Option Addr} {l1 : List Flt} {c1 : Nat} {A2 : Option Addr} {la : List Act} {c2 : Nat} {w : World} (hb : Below w0.heap.size w0 w) (h0 : FltsRd w0 A0 l0) (h1 : FltsRd w0 A1 l1) (h2 : ActsB w0 w0.heap.size A2 la) (hl0 : l0.length * 24 ≤ 140737488351232) (hl1 : l1.length * 24 ≤ 140737488351232) (hla : la.length ≤ 140737488351232) :
    Calls Tryz.prog 5 #[.agg (caseCells r b t s o (.slice A0 l0.length c0) (.slice A1 l1.length c1) (.slice A2 la.length c2))] w fun e w' => e = .returned (.bool (fair14 (Geo.mk r b t s o) l0 l1 la)) ∧ Below w.heap.size w w' :=
  fair14_any w0.heap.size r b t s o A0 l0 c0 A1 l1 c1 A2 la c2 w hb.size (h0.below hb) (h1.below hb) (h2.below hb) hl0 hl1 hla
theorem Two.lower {w : World} {B B' pp : Nat} {q : Bool → Nat} {P : Pow} {D : Bool → Dsk} (h : Two w B pp q P D) (hB : B' ≤ B) : Two w B' pp q P D := by
  obtain ⟨F, h⟩ := h
  exact ⟨F, h.pow, h.dsk, fun i k hk => Nat.le_trans hB (h.le i k hk), Nat.le_trans hB h.lp, h.np, h.apart⟩
theorem RTwo.lower {w : World} {B B' pp : Nat} {q : Bool → Nat} {P : Pow} {D : Bool → Dsk} (h : RTwo w B pp q P D) (hB : B' ≤ B) : RTwo w B' pp q P D := by
  obtain ⟨F, h⟩ := h
  exact ⟨F, h.pow, h.dsk, fun i k hk => Nat.le_trans hB (h.le i k hk), Nat.le_trans hB h.lp, h.np, h.apart⟩
theorem Two.disk {w : World} {B pp : Nat} {q : Bool → Nat} {P : Pow} {D : Bool → Dsk} (h : Two w B pp q P D) (i : Bool) : ∃ G, IsDisk w G (q i) pp (D i) ∧ IsPow w (· = pp) pp P := by
  obtain ⟨F, h⟩ := h
  exact ⟨F i, h.dsk i, h.pow⟩
theorem RTwo.disk {w : World} {B pp : Nat} {q : Bool → Nat} {P : Pow} {D : Bool → Dsk} (h : RTwo w B pp q P D) (i : Bool) : ∃ G, IsRDisk w G (q i) pp (D i) ∧ IsRPow w (· = pp) pp P := by
  obtain ⟨F, h⟩ := h
  exact ⟨F i, h.dsk i, h.pow⟩
theorem upd_self {α : Type} (f : Bool → α) (i : Bool) : upd f i (f i) = f := by
  funext j
  by_cases e : j = i
  · subst e; exact upd_same _ _ _
  · exact upd_other _ e _
theorem small_new (g : Geo) (l0 l1 : List Flt) (h0 : l0.length ≤ 1000000) (h1 : l1.length ≤ 1000000) : Small (newSt g l0 l1) := by
  constructor <;> intro i <;> cases i <;> simp [newSt, Dsk.new] <;> omega

/-- What one operation on a disk of the pair leaves. -/
def OneTwo (B pp : Nat) (q : Bool → Nat) (D : Bool → Dsk) (i : Bool) (o : Out) (w : World) (e : Ending) (w' : World) : Prop :=
  e = .returned (.int .i64 o.e) ∧ Two w' B pp q o.p (upd D i o.d) ∧ (∃ G : Nat → Prop, FrG G diskTs w w') ∧ Below B w w'
section
variable {B pp : Nat} {q : Bool → Nat} {P : Pow} {D : Bool → Dsk}
theorem one_two {f : Fn} {n : Nat} {args : Array Value} {w : World} (h : Two w B pp q P D) (i : Bool) (o : Out) (hc : ∀ F, TwoAt w B pp q F P D → Calls Tryz.prog n args w (OutIs (At F i pp w.heap.size) (q i) pp o w)) : Calls Tryz.prog n args w (OneTwo B pp q D i o w) := by
  obtain ⟨F, T⟩ := h
  refine (hc F T).mono ?_
  rintro e w' ⟨rfl, hD, hP, hF⟩
  exact ⟨rfl, T.step hD hP hF, ⟨_, hF⟩, T.bel hF⟩
theorem acquire_two (w : World) (h : Two w B pp q P D) (i : Bool) (key : Int) : Calls Tryz.prog 13 #[.pointer (some ⟨q i, 0, none⟩), .int .u64 key] w (OneTwo B pp q D i ((D i).acqO P key) w) :=
  one_two (f := .func 0) h i _ (fun F T => dacquire2_any key w (T.one i) (T.pone i))
theorem flush_two (w : World) (h : Two w B pp q P D) (hs : Small D) (i : Bool) (key : Int) : Calls Tryz.prog 28 #[.pointer (some ⟨q i, 0, none⟩), .int .u64 key] w (OneTwo B pp q D i ((D i).flushO P key) w) :=
  one_two (f := .func 0) h i _ (fun F T => dflush_any key w (T.one i) (T.pone i) (TwoAt.new i) (hs.fl i) (Nat.le_trans (hs.ln i) (by decide)))
theorem restart_two (w : World) (h : Two w B pp q P D) (hs : Small D) (i : Bool) (k : Int) : Calls Tryz.prog 14 #[.pointer (some ⟨q i, 0, none⟩), .int .i64 k] w (OneTwo B pp q D i ((D i).restartO P k) w) :=
  one_two (f := .func 0) h i _ (fun F T => drestart_any k w (T.one i) (T.pone i) (TwoAt.new i) (Nat.le_trans (hs.ln i) (by decide)))
/-- An act on the first disk. -/
def FirstIs (B pp : Nat) (q : Bool → Nat) (D' : Bool → Dsk) (o : Out) (w : World) (e : Ending) (w' : World) : Prop :=
  ∃ s, e = .returned (.tuple #[.string s, .int .i64 o.e]) ∧ Two w' B pp q o.p D' ∧ (∃ G : Nat → Prop, FrG G diskTs w w') ∧ Below B w w'
theorem do_first (w : World) (a : Act) (A' : Option Addr) (c' : Nat) (o : Out) (D' : Bool → Dsk) (ho : (D false).actO P a.first = o) (hD' : upd D false o.d = D') (h : Two w B pp q P D) (hs : Small D) (hb : BytesB w B A' a.bs) (hcap : a.bs.length ≤ c') (h63 : a.bs.length ≤ 140737488351232) :
    Calls Tryz.prog 10 #[.agg #[.pointer (some ⟨pp, 0, none⟩), .pointer (some ⟨q false, 0, none⟩), .pointer (some ⟨q true, 0, none⟩)], .agg #[.int .u8 0, .int .u8 (a.kind.toNat : Int), .int .u64 a.key, .int .i64 a.at_, .slice A' a.bs.length c', .bool a.force]] w (FirstIs B pp q D' o w) := by
  refine (do_two B pp q P D a.first A' c' w h hs hb hcap h63).mono ?_
  rintro e w' ⟨rfl, hT, hF, hb2⟩
  rw [Act.side_first] at hT ⊢
  rw [ho] at hT ⊢
  rw [hD'] at hT
  exact ⟨_, rfl, hT, hF, hb2⟩
end
theorem acq_new (g : Geo) (l0 l1 : List Flt) (key : Int) : (newSt g l0 l1 false).acqO Pow.new key = ⟨0, { newSt g l0 l1 false with key := key }, Pow.new⟩ := rfl
/-- A disk with another key. -/
theorem Dsk.actO_fence {D : Dsk} {a : Act} (ha : a.op = true) (hk : a.key = 0) (hD : D.key ≠ 0) (hs : D.state Pow.new = 0) : D.actO Pow.new a = ⟨17, D, Pow.new⟩ := by
  have hb : D.begin_ Pow.new a.key = ⟨Pow.new, D, 17, ⟨0, 0, 0⟩⟩ := Dsk.begin_key hs rfl (by rw [hk]; exact fun e => hD e.symm)
  rw [Dsk.actO_stop ha (by rw [hb]; show (17 : Int) ≠ 0; decide), hb]

end Go.Proofs.YtmloiifnadaaoaaGreat
/- The law DiskStays. -/
namespace Go.Proofs.YtmloiifnadaaoaaGreat
open Go.RowKit
set_option linter.unusedVariables false
set_option linter.unusedSimpArgs false

/-- Under way in a law: the pair, the local variable that holds it, the case. -/
structure Lw (w : World) (nx : Nat) (cc : Array Value) (pp : Nat) (q : Bool → Nat) (P : Pow) (D : Bool → Dsk) (W : World) : Prop where
  two : Two W w.heap.size pp q P D
  par : Row 35 nx (pairCells (at0 pp) (at0 (q false)) (at0 (q true))) W
  box : Row 28 w.heap.size cc W
  bel : Below w.heap.size w W
namespace Lw
variable {w W W' : World} {nx : Nat} {cc : Array Value} {pp : Nat} {q : Bool → Nat} {P P' : Pow} {D D' : Bool → Dsk} {G : Nat → Prop} {Ts : List TypeId}
theorem step (h : Lw w nx cc pp q P D W) (hT : Two W' w.heap.size pp q P' D') (hF : FrG G diskTs W W') (hb : Below w.heap.size W W') : Lw w nx cc pp q P' D' W' :=
  ⟨hT, h.par.fr hF ((avoid_TG (Us := [35]) (by decide)).not h.par.hasT (by simp)), h.box.fr hF ((avoid_TG (Us := [28]) (by decide)).not h.box.hasT (by simp)), h.bel.trans hb⟩
theorem below (h : Lw w nx cc pp q P D W) (hb : Below W.heap.size W W') : Lw w nx cc pp q P D W' := ⟨h.two.below hb, h.par.below hb, h.box.below hb, below_of hb h.bel⟩
theorem act (h : Lw w nx cc pp q P D W) {g : Nat} (hg : HasT W g 55) (hB : w.heap.size ≤ g) (i : Nat) (v : Value) : Lw w nx cc pp q P D (W.setCell ⟨g, i, none⟩ v) :=
  ⟨h.two.act hg i v, h.par.other (hg.ne h.par.hasT (by decide)) i v, h.box.other (hg.ne h.box.hasT (by decide)) i v, below_set h.bel (p := ⟨g, i, none⟩) hB v⟩
theorem c0 (h : Lw w nx cc pp q P D W) : W.cell? ⟨nx, 0, none⟩ = some (.pointer (at0 pp)) := h.par.cell rfl
theorem c1 (h : Lw w nx cc pp q P D W) : W.cell? ⟨nx, 1, none⟩ = some (.pointer (at0 (q false))) := h.par.cell rfl
theorem c2 (h : Lw w nx cc pp q P D W) : W.cell? ⟨nx, 2, none⟩ = some (.pointer (at0 (q true))) := h.par.cell rfl
theorem lx (h : Lw w nx cc pp q P D W) : nx < W.heap.size := h.par.lt
end Lw
/-- A power supply's operation leaves the pair. -/
def PowTwo (B pp : Nat) (q : Bool → Nat) (P : Pow) (D : Bool → Dsk) (w : World) (e : Ending) (w' : World) : Prop :=
  e = .returned (.tuple #[]) ∧ Two w' B pp q P D ∧ (∃ G : Nat → Prop, FrG G diskTs w w') ∧ Below B w w'
section
variable {B pp : Nat} {q : Bool → Nat} {P : Pow} {D : Bool → Dsk}
theorem pow_two {P' : Pow} {n : Nat} {args : Array Value} {w : World} (h : Two w B pp q P D) (hc : ∀ G, IsPow w G pp P → Calls Tryz.prog n args w (fun e w' => e = .returned (.tuple #[]) ∧ IsPow w' G pp P' ∧ Fr (· = pp) w w')) : Calls Tryz.prog n args w (PowTwo B pp q P' D w) := by
  obtain ⟨F, T⟩ := h
  refine (hc (· = pp) T.pow).mono ?_
  rintro e w' ⟨rfl, hP, hF⟩
  have hG := frG_pow T.pow hF
  have hB := T.lt
  have hl := T.lp
  exact ⟨rfl, ⟨F, hP, fun i => (T.dsk i).keepA hF (avoid_one T.pow.hasP (by decide)), T.le, T.lp, T.np, T.apart⟩, ⟨_, hG⟩, hG.below hB (fun k hk => by have h9 : k = pp := hk; omega)⟩
theorem arm_two (w : World) (h : Two w B pp q P D) (n : Int) : Calls Tryz.prog 20 #[.pointer (some ⟨pp, 0, none⟩), .int .i64 n] w (PowTwo B pp q (P.arm n) D w) := pow_two h (fun G hp => darm_any n w hp)
theorem on_two (w : World) (h : Two w B pp q P D) : Calls Tryz.prog 29 #[.pointer (some ⟨pp, 0, none⟩)] w (PowTwo B pp q P.on D w) := pow_two h (fun G hp => don_any w hp)
theorem off_two (w : World) (h : Two w B pp q P D) : Calls Tryz.prog 21 #[.pointer (some ⟨pp, 0, none⟩)] w fun e w' => e = .returned (.bool P.off) ∧ w = w' := by
  obtain ⟨F, T⟩ := h
  exact doff_any w T.pow
end
/-- The ways of DiskStays. -/
def sP1 : Pow := ⟨false, true, 0, 0⟩
def sP2 : Pow := ⟨true, false, 0, 1⟩
def sP3 : Pow := ⟨false, false, 0, 1⟩
def sD (g : Geo) : Bool → Dsk := newSt g [] []
def sD3 (g : Geo) : Bool → Dsk := upd (sD g) true { sD g true with c := (sD g true).c.cut 0, seen := 1 }
theorem s_arm : Pow.new.arm 0 = sP1 := rfl
theorem s_call : sP1.call = sP2 := by
  show (⟨true, false, 0, inc 0⟩ : Pow) = ⟨true, false, 0, 1⟩
  rw [show inc 0 = 1 by decide +kernel]
theorem s_flush (g : Geo) : (sD g true).flushO sP1 0 = ⟨13, sD g true, sP2⟩ := by
  have hb : (sD g true).begin_ sP1 0 = ⟨sP2, sD g true, 13, ⟨0, 0, 0⟩⟩ := by rw [Dsk.begin_power rfl (by rw [s_call]; rfl), s_call]
  unfold Dsk.flushO
  rw [if_neg (by rw [hb]; show (13 : Int) ≠ 0; decide), hb]
theorem s_restart (g : Geo) : (sD g true).restartO sP2 0 = ⟨0, { sD g true with c := (sD g true).c.cut 0, seen := 1 }, sP2⟩ := rfl
theorem s_on : sP2.on = sP3 := rfl
theorem s_first (g : Geo) : sD3 g false = sD g false := upd_other _ (by decide) _
theorem s_state (g : Geo) : (sD3 g false).state sP3 = 13 := by rw [s_first]; exact Dsk.state_seen rfl (by show (0 : Int) ≠ 1; decide)
theorem s_act (g : Geo) {a : Act} (ha : a.op = true) : (sD3 g false).actO sP3 a = ⟨13, sD3 g false, sP3⟩ := by
  have hb := Dsk.begin_state (D := sD3 g false) (P := sP3) (by rw [s_state]; decide) a.key
  rw [s_state] at hb
  rw [Dsk.actO_stop ha (by rw [hb]; show (13 : Int) ≠ 0; decide), hb]
theorem s_acquire (g : Geo) : (sD3 g false).acqO sP3 1 = ⟨13, sD3 g false, sP3⟩ := by unfold Dsk.acqO; rw [s_state, if_neg (by decide)]
theorem s_again (g : Geo) : (sD3 g false).restartO sP3 0 = ⟨8, sD3 g false, sP3⟩ := by
  unfold Dsk.restartO
  rw [if_neg (by rw [s_first]; exact Bool.false_ne_true), if_pos (show sP3.off = false from rfl)]
theorem s_last (g : Geo) : ((sD3 g true).flushO sP3 0).e = 0 := by
  have hb : ((sD3 g true).begin_ sP3 0).e = 0 := by
    rw [Dsk.begin_go (by unfold sD3; rw [upd_same]; rfl) rfl (by unfold sD3; rw [upd_same]; rfl) (by unfold sD3; rw [upd_same]; show (0 : Int) ≠ 7; decide) (by unfold sD3; rw [upd_same]; show (0 : Int) ≠ 6; decide)]
  unfold Dsk.flushO
  rw [if_pos hb]
theorem s_count (g : Geo) (x : Dsk) : (upd (sD3 g) true x false).count = 0 := by rw [upd_other _ (by decide), s_first]; rfl
theorem s_small (g : Geo) : Small (sD g) ∧ Small (sD3 g) := by
  have h := small_new g [] [] (by decide) (by decide)
  exact ⟨h, Small.upd h (by show (0 : Nat) ≤ _; omega) (by show (0 : Nat) ≤ _; omega)⟩
end Go.Proofs.YtmloiifnadaaoaaGreat
