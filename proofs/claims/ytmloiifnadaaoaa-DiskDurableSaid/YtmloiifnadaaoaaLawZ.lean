/- Acts on pairs of disks: what do and want leave; lists of acts in memory. -/
import Derived.Test.YtmloiifnadaaoaaActW
import Derived.Test.YtmloiifnadaaoaaLawW
import Derived.Test.YtmloiifnadaaoaaDskL1
namespace Go.Proofs.Ytmloiifnadaaoaa
open Go.RowKit
set_option linter.unusedVariables false
set_option linter.unusedSimpArgs false

/-- The numbers of operations and faults stay small. -/
structure Small (D : Bool → Dsk) : Prop where
  fl : ∀ i, (D i).fl.length ≤ 1000000
  ln : ∀ i, (D i).c.l.length ≤ 900000
def DoTwo (B pp : Nat) (q : Bool → Nat) (P : Pow) (D : Bool → Dsk) (a : Act) (w : World) (e : Ending) (w' : World) : Prop :=
  e = .returned (.tuple #[.string ⟨((D a.side).actB P a).toArray⟩, .int .i64 ((D a.side).actO P a).e]) ∧ Two w' B pp q ((D a.side).actO P a).p (upd D a.side ((D a.side).actO P a).d) ∧ (∃ G : Nat → Prop, FrG G diskTs w w') ∧ Below B w w'
theorem side_q (a : Act) (q : Bool → Nat) : (if a.side then q true else q false) = q a.side := by cases a.side <;> rfl
theorem do_two (B pp : Nat) (q : Bool → Nat) (P : Pow) (D : Bool → Dsk) (a : Act) (A' : Option Addr) (c' : Nat) (w : World) (h : Two w B pp q P D) (hs : Small D) (hb : BytesB w B A' a.bs) (hcap : a.bs.length ≤ c') (h63 : a.bs.length ≤ 140737488351232) :
    Calls Try.prog 99 #[.agg #[.pointer (some ⟨pp, 0, none⟩), .pointer (some ⟨q false, 0, none⟩), .pointer (some ⟨q true, 0, none⟩)], .agg #[.int .u8 (a.disk.toNat : Int), .int .u8 (a.kind.toNat : Int), .int .u64 a.key, .int .i64 a.at_, .slice A' a.bs.length c', .bool a.force]] w (DoTwo B pp q P D a w) := by
  obtain ⟨F, T⟩ := h
  refine (do14_any (G := At F a.side pp w.heap.size) (pd := q a.side) (D := D a.side) (P := P) a A' c' (q false) (q true) w (side_q a q) (T.one _) (T.pone _) (TwoAt.new _) (hs.fl _) (hs.ln _) (fun w' hF => (hb.below (T.bel hF)).rd) hcap h63).mono ?_
  rintro e w' ⟨rfl, hD, hP, hF⟩
  exact ⟨rfl, T.step hD hP hF, ⟨_, hF⟩, T.bel hF⟩
def WantTwo (B pp : Nat) (q : Bool → Nat) (P : Pow) (D : Bool → Dsk) (a : Act) (w : World) (e : Ending) (w' : World) : Prop :=
  e = .returned (.tuple #[.string ⟨((D a.side).actB P a).toArray⟩, .int .i64 ((D a.side).actO P a).e]) ∧ RTwo w' B pp q ((D a.side).actO P a).p (upd D a.side ((D a.side).actO P a).d) ∧ (∃ G : Nat → Prop, FrG G rdiskTs w w') ∧ Below B w w'
theorem want_two (B pp : Nat) (q : Bool → Nat) (P : Pow) (D : Bool → Dsk) (pv : Option Addr) (a : Act) (A' : Option Addr) (c' : Nat) (w : World) (hpv : a.op = true ∨ pv = some ⟨pp, 0, none⟩) (h : RTwo w B pp q P D) (hs : Small D) (hb : BytesB w B A' a.bs) (hcap : a.bs.length ≤ c') (h63 : a.bs.length ≤ 140737488351232) :
    Calls Try.prog 102 #[.pointer pv, .agg #[.pointer (some ⟨q false, 0, none⟩), .pointer (some ⟨q true, 0, none⟩)], .agg #[.int .u8 (a.disk.toNat : Int), .int .u8 (a.kind.toNat : Int), .int .u64 a.key, .int .i64 a.at_, .slice A' a.bs.length c', .bool a.force]] w (WantTwo B pp q P D a w) := by
  obtain ⟨F, T⟩ := h
  refine (want14_any (G := At F a.side pp w.heap.size) (pd := q a.side) (D := D a.side) (P := P) pv a hpv A' c' (q false) (q true) w (side_q a q) (T.one _) (T.pone _) (TwoAt.new _) (hs.fl _) (hs.ln _) (fun w' hF => (hb.below (T.bel hF)).rd) hcap h63).mono ?_
  rintro e w' ⟨rfl, hD, hP, hF⟩
  exact ⟨rfl, T.step hD hP hF, ⟨_, hF⟩, T.bel hF⟩
theorem Small.upd {D : Bool → Dsk} (h : Small D) {i : Bool} {d : Dsk} (h1 : d.fl.length ≤ 1000000) (h2 : d.c.l.length ≤ 900000) : Small (upd D i d) := by
  constructor <;> intro j <;> by_cases e : j = i
  · subst e; rw [upd_same]; exact h1
  · rw [upd_other _ e]; exact h.fl j
  · subst e; rw [upd_same]; exact h2
  · rw [upd_other _ e]; exact h.ln j

/-- Acts in a row of the call's own, from the j-th on. -/
def ActsAt (w : World) (B : Nat) (A : Option Addr) (l : List Act) (j : Nat) : Prop :=
  l = [] ∨ ∃ g xs, A = some ⟨g, 0, none⟩ ∧ B ≤ g ∧ Row 113 g xs w ∧ ∀ (i : Nat) (a : Act), j ≤ i → l[i]? = some a → ∃ A' c', (∀ k, k < 6 → xs[i * 6 + k]? = (actVals a A' c')[k]?) ∧ BytesB w B A' a.bs ∧ a.bs.length ≤ c'
theorem ActsAt.of {w : World} {B base : Nat} {v : Value} {l : List Act} (h : ActRow w B base v l) (hB : B ≤ base) : ∃ A c, v = .slice A l.length c ∧ ActsAt w B A l 0 := by
  obtain ⟨xs, hr, hx⟩ := h
  have hlen := hr.1
  rcases hr.2 with ⟨rfl, hn⟩ | ⟨g, cap, cur, rfl, hb, hg, hnc, _, hsz, ht⟩
  · exact ⟨none, 0, by rw [hn], .inl (List.eq_nil_of_length_eq_zero hn)⟩
  · refine ⟨_, _, rfl, .inr ⟨g, cur, rfl, by omega, hg, fun i a _ ha => ?_⟩⟩
    obtain ⟨A', c', h1, h2, h3⟩ := hx i a ha
    have hi := (List.getElem?_eq_some_iff.1 ha).1
    refine ⟨A', c', fun k hk => ?_, h2, h3⟩
    rw [← h1 k hk, ← ht, List.getElem?_take, if_pos (by omega), Array.getElem?_toList]
theorem ActsAt.frG {w w' : World} {B : Nat} {A : Option Addr} {l : List Act} {j : Nat} {G : Nat → Prop} {Ts : List TypeId} (h : ActsAt w B A l j) (hF : FrG G Ts w w') (hb : Below B w w') (hT : Ts.all (fun T => ![113].contains T) = true) : ActsAt w' B A l j := by
  refine h.imp id ?_
  rintro ⟨g, xs, h1, h2, h3, h4⟩
  refine ⟨g, xs, h1, h2, h3.fr hF ((avoid_TG hT).not h3.hasT (by simp)), fun i a hi ha => ?_⟩
  obtain ⟨A', c', k1, k2, k3⟩ := h4 i a hi ha
  exact ⟨A', c', k1, k2.below hb, k3⟩
theorem ActsAt.below {w w' : World} {B : Nat} {A : Option Addr} {l : List Act} {j : Nat} (h : ActsAt w B A l j) (hB : B ≤ w.heap.size) (hb : Below w.heap.size w w') : ActsAt w' B A l j :=
  h.frG (FrG.ofBelow (G := fun _ => False) (Ts := []) hb) (hb.mono hB) rfl
theorem ActsAt.get {w : World} {B : Nat} {A : Option Addr} {l : List Act} {j : Nat} (h : ActsAt w B A l j) {a : Act} (ha : l[j]? = some a) : ∃ g xs A' c', A = some ⟨g, 0, none⟩ ∧ B ≤ g ∧ Row 113 g xs w ∧ (∀ k, k < 6 → xs[j * 6 + k]? = (actVals a A' c')[k]?) ∧ BytesB w B A' a.bs ∧ a.bs.length ≤ c' := by
  rcases h with rfl | ⟨g, xs, h1, h2, h3, h4⟩
  · simp at ha
  · obtain ⟨A', c', k1, k2, k3⟩ := h4 j a (Nat.le_refl _) ha
    exact ⟨g, xs, A', c', h1, h2, h3, k1, k2, k3⟩
/-- The j-th act is made one of the first disk. -/
theorem ActsAt.store {w : World} {B : Nat} {A : Option Addr} {l : List Act} {j g : Nat} (h : ActsAt w B A l j) (hA : A = some ⟨g, 0, none⟩) (hBw : B ≤ w.heap.size) : ActsAt (w.setCell ⟨g, j * 6, none⟩ (.int .u8 0)) B A l (j + 1) := by
  refine h.imp id ?_
  rintro ⟨g', xs, h1, h2, h3, h4⟩
  rw [hA] at h1
  obtain rfl : g = g' := by injection h1 with h1; injection h1
  refine ⟨g, _, hA, h2, h3.set (j * 6) _, fun i a hi ha => ?_⟩
  obtain ⟨A', c', k1, k2, k3⟩ := h4 i a (by omega) ha
  exact ⟨A', c', fun k hk => by rw [Array.getElem?_setIfInBounds_ne (by omega)]; exact k1 k hk, k2.below ((Below.refl B w).setCell h2 _), k3⟩
/-- What a round reads: the pair's three cells, the act's six. -/
def HeldA (nx : Nat) (p0 p1 p2 : Value) (g k : Nat) (u0 u1 u2 u3 u4 u5 : Value) (W : World) : Prop :=
  W.cell? ⟨nx, 0, none⟩ = some p0 ∧ W.cell? ⟨nx, 1, none⟩ = some p1 ∧ W.cell? ⟨nx, 2, none⟩ = some p2 ∧ W.cell? ⟨g, k, none⟩ = some u0 ∧ W.cell? ⟨g, k + 1, none⟩ = some u1 ∧ W.cell? ⟨g, k + 2, none⟩ = some u2 ∧ W.cell? ⟨g, k + 3, none⟩ = some u3 ∧ W.cell? ⟨g, k + 4, none⟩ = some u4 ∧ W.cell? ⟨g, k + 5, none⟩ = some u5
theorem HeldA.keep {nx : Nat} {p0 p1 p2 : Value} {g k : Nat} {u0 u1 u2 u3 u4 u5 : Value} {W W' : World} {S : Nat → Prop} (h : HeldA nx p0 p1 p2 g k u0 u1 u2 u3 u4 u5 W) (hF : Fr S W W') (h1 : ¬ S nx) (h2 : ¬ S g) : HeldA nx p0 p1 p2 g k u0 u1 u2 u3 u4 u5 W' :=
  ⟨hF.cell h.1 h1, hF.cell h.2.1 h1, hF.cell h.2.2.1 h1, hF.cell h.2.2.2.1 h2, hF.cell h.2.2.2.2.1 h2, hF.cell h.2.2.2.2.2.1 h2, hF.cell h.2.2.2.2.2.2.1 h2, hF.cell h.2.2.2.2.2.2.2.1 h2, hF.cell h.2.2.2.2.2.2.2.2 h2⟩
theorem HeldA.drew {nx : Nat} {p0 p1 p2 : Value} {g k : Nat} {u0 u1 u2 u3 u4 u5 : Value} {W : World} (h : HeldA nx p0 p1 p2 g k u0 u1 u2 u3 u4 u5 W) : HeldA nx p0 p1 p2 g k u0 u1 u2 u3 u4 u5 W.drew := h.keep (Fr.ofBelow (Below.refl _ _).drew (fun _ => False)) id id
/-- What was read stands behind an act. -/
theorem HeldA.frG {nx : Nat} {p0 p1 p2 : Value} {g k : Nat} {u0 u1 u2 u3 u4 u5 : Value} {W W' : World} {G : Nat → Prop} {Ts : List TypeId} (h : HeldA nx p0 p1 p2 g k u0 u1 u2 u3 u4 u5 W) (hF : FrG G Ts W W') (hx : HasT W nx 106) (hg : HasT W g 113) (hT : Ts.all (fun T => ![106, 113].contains T) = true) : HeldA nx p0 p1 p2 g k u0 u1 u2 u3 u4 u5 W' :=
  h.keep hF ((avoid_TG hT).not hx (by simp)) ((avoid_TG hT).not hg (by simp))
/-- The j-th act, made one of the first disk: what a round then reads. -/
theorem acts_first {w : World} {B : Nat} {A : Option Addr} {l : List Act} {j nx : Nat} {a : Act} {p0 p1 p2 : Option Addr} (h : ActsAt w B A l j) (ha : l[j]? = some a) (hx : Row 106 nx (pairCells p0 p1 p2) w) (hBw : B ≤ w.heap.size) :
    ∃ g A' c', A = some ⟨g, 0, none⟩ ∧ B ≤ g ∧ HasT w g 113 ∧ ¬ g = nx ∧ g < w.heap.size ∧ w.cell? ⟨g, j * 6, none⟩ = some (.int .u8 (a.disk.toNat : Int)) ∧ w.frozen? ⟨g, j * 6, none⟩ = false ∧ a.bs.length ≤ c' ∧ BytesB w B A' a.bs ∧
      HeldA nx (.pointer p0) (.pointer p1) (.pointer p2) g (j * 6) (.int .u8 0) (.int .u8 (a.kind.toNat : Int)) (.int .u64 a.key) (.int .i64 a.at_) (.slice A' a.bs.length c') (.bool a.force) (w.setCell ⟨g, j * 6, none⟩ (.int .u8 0)) := by
  obtain ⟨g, xs, A', c', rfl, h2, h3, h4, h5, h6⟩ := h.get ha
  have hne : ¬ g = nx := fun e => (h3.hasT.ne hx.hasT (by decide)) e
  have hR := h3.set (j * 6) (.int .u8 0)
  have hX := hx.other (k := g) hne (j * 6) (.int .u8 0)
  have c0 := h4 0 (by omega)
  have c1 := h4 1 (by omega)
  have c2 := h4 2 (by omega)
  have c3 := h4 3 (by omega)
  have c4 := h4 4 (by omega)
  have c5 := h4 5 (by omega)
  have hlt : j * 6 < xs.size := (Array.getElem?_eq_some_iff.1 (show xs[j * 6]? = some _ from c0)).1
  refine ⟨g, A', c', rfl, h2, h3.hasT, hne, h3.lt, h3.cell c0, h3.fz _, h6, h5, hX.cell (i := 0) rfl, hX.cell (i := 1) rfl, hX.cell (i := 2) rfl, hR.cell ?_, hR.cell ?_, hR.cell ?_, hR.cell ?_, hR.cell ?_, hR.cell ?_⟩
  · rw [Array.getElem?_setIfInBounds_self, if_pos hlt]
  · rw [Array.getElem?_setIfInBounds_ne (by omega)]; exact c1
  · rw [Array.getElem?_setIfInBounds_ne (by omega)]; exact c2
  · rw [Array.getElem?_setIfInBounds_ne (by omega)]; exact c3
  · rw [Array.getElem?_setIfInBounds_ne (by omega)]; exact c4
  · rw [Array.getElem?_setIfInBounds_ne (by omega)]; exact c5
theorem Two.act {w : World} {B pp : Nat} {q : Bool → Nat} {P : Pow} {D : Bool → Dsk} (h : Two w B pp q P D) {g : Nat} (hg : HasT w g 113) (i : Nat) (v : Value) : Two (w.setCell ⟨g, i, none⟩ v) B pp q P D := h.keepA (fr_one w g i v) (avoid_one hg (by decide)) (avoid_one hg (by decide))
theorem RTwo.act {w : World} {B pp : Nat} {q : Bool → Nat} {P : Pow} {D : Bool → Dsk} (h : RTwo w B pp q P D) {g : Nat} (hg : HasT w g 113) (i : Nat) (v : Value) : RTwo (w.setCell ⟨g, i, none⟩ v) B pp q P D := h.keepA (fr_one w g i v) (avoid_one hg (by decide)) (avoid_one hg (by decide))
theorem Two.box {w : World} {B pp : Nat} {q : Bool → Nat} {P : Pow} {D : Bool → Dsk} (h : Two w B pp q P D) {g : Nat} (hg : HasT w g 106) (i : Nat) (v : Value) : Two (w.setCell ⟨g, i, none⟩ v) B pp q P D := h.keepA (fr_one w g i v) (avoid_one hg (by decide)) (avoid_one hg (by decide))
end Go.Proofs.Ytmloiifnadaaoaa
/- Helpers of the laws on acts; the law DiskFences. -/
namespace Go.Proofs.Ytmloiifnadaaoaa
open Go.RowKit
set_option linter.unusedVariables false
set_option linter.unusedSimpArgs false

theorem fair14_at {w0 : World} {r b t s o : Int} {A0 : Option Addr} {l0 : List Flt} {c0 : Nat} {A1 : Option Addr} {l1 : List Flt} {c1 : Nat} {A2 : Option Addr} {la : List Act} {c2 : Nat} {w : World} (hb : Below w0.heap.size w0 w) (h0 : FltsRd w0 A0 l0) (h1 : FltsRd w0 A1 l1) (h2 : ActsB w0 w0.heap.size A2 la) (hl0 : l0.length * 24 ≤ 140737488351232) (hl1 : l1.length * 24 ≤ 140737488351232) (hla : la.length ≤ 140737488351232) :
    Calls Try.prog 91 #[.agg (caseCells r b t s o (.slice A0 l0.length c0) (.slice A1 l1.length c1) (.slice A2 la.length c2))] w fun e w' => e = .returned (.bool (fair14 (Geo.mk r b t s o) l0 l1 la)) ∧ Below w.heap.size w w' :=
  fair14_any w0.heap.size r b t s o A0 l0 c0 A1 l1 c1 A2 la c2 w hb.size (h0.below hb) (h1.below hb) (h2.below hb) hl0 hl1 hla
theorem Two.lower {w : World} {B B' pp : Nat} {q : Bool → Nat} {P : Pow} {D : Bool → Dsk} (h : Two w B pp q P D) (hB : B' ≤ B) : Two w B' pp q P D := by
  obtain ⟨F, h⟩ := h
  exact ⟨F, h.pow, h.dsk, fun i k hk => Nat.le_trans hB (h.le i k hk), Nat.le_trans hB h.lp, h.np, h.apart⟩
theorem RTwo.lower {w : World} {B B' pp : Nat} {q : Bool → Nat} {P : Pow} {D : Bool → Dsk} (h : RTwo w B pp q P D) (hB : B' ≤ B) : RTwo w B' pp q P D := by
  obtain ⟨F, h⟩ := h
  exact ⟨F, h.pow, h.dsk, fun i k hk => Nat.le_trans hB (h.le i k hk), Nat.le_trans hB h.lp, h.np, h.apart⟩
theorem Two.disk {w : World} {B pp : Nat} {q : Bool → Nat} {P : Pow} {D : Bool → Dsk} (h : Two w B pp q P D) (i : Bool) : ∃ G, IsDisk w G (q i) pp (D i) ∧ IsPow w (· = pp) pp P := by
  obtain ⟨F, h⟩ := h
  exact ⟨F i, h.dsk i, h.pow⟩
theorem RTwo.disk {w : World} {B pp : Nat} {q : Bool → Nat} {P : Pow} {D : Bool → Dsk} (h : RTwo w B pp q P D) (i : Bool) : ∃ G, IsRDisk w G (q i) pp (D i) ∧ IsRPow w (· = pp) pp P := by
  obtain ⟨F, h⟩ := h
  exact ⟨F i, h.dsk i, h.pow⟩
theorem upd_self {α : Type} (f : Bool → α) (i : Bool) : upd f i (f i) = f := by
  funext j
  by_cases e : j = i
  · subst e; exact upd_same _ _ _
  · exact upd_other _ e _
theorem small_new (g : Geo) (l0 l1 : List Flt) (h0 : l0.length ≤ 1000000) (h1 : l1.length ≤ 1000000) : Small (newSt g l0 l1) := by
  constructor <;> intro i <;> cases i <;> simp [newSt, Dsk.new] <;> omega

/-- What one operation on a disk of the pair leaves. -/
def OneTwo (B pp : Nat) (q : Bool → Nat) (D : Bool → Dsk) (i : Bool) (o : Out) (w : World) (e : Ending) (w' : World) : Prop :=
  e = .returned (.int .i64 o.e) ∧ Two w' B pp q o.p (upd D i o.d) ∧ (∃ G : Nat → Prop, FrG G diskTs w w') ∧ Below B w w'
section
variable {B pp : Nat} {q : Bool → Nat} {P : Pow} {D : Bool → Dsk}
theorem one_two {f : Fn} {n : Nat} {args : Array Value} {w : World} (h : Two w B pp q P D) (i : Bool) (o : Out) (hc : ∀ F, TwoAt w B pp q F P D → Calls Try.prog n args w (OutIs (At F i pp w.heap.size) (q i) pp o w)) : Calls Try.prog n args w (OneTwo B pp q D i o w) := by
  obtain ⟨F, T⟩ := h
  refine (hc F T).mono ?_
  rintro e w' ⟨rfl, hD, hP, hF⟩
  exact ⟨rfl, T.step hD hP hF, ⟨_, hF⟩, T.bel hF⟩
theorem acquire_two (w : World) (h : Two w B pp q P D) (i : Bool) (key : Int) : Calls Try.prog 100 #[.pointer (some ⟨q i, 0, none⟩), .int .u64 key] w (OneTwo B pp q D i ((D i).acqO P key) w) :=
  one_two (f := .func 0) h i _ (fun F T => dacquire2_any key w (T.one i) (T.pone i))
theorem flush_two (w : World) (h : Two w B pp q P D) (hs : Small D) (i : Bool) (key : Int) : Calls Try.prog 94 #[.pointer (some ⟨q i, 0, none⟩), .int .u64 key] w (OneTwo B pp q D i ((D i).flushO P key) w) :=
  one_two (f := .func 0) h i _ (fun F T => dflush_any key w (T.one i) (T.pone i) (TwoAt.new i) (hs.fl i) (Nat.le_trans (hs.ln i) (by decide)))
theorem restart_two (w : World) (h : Two w B pp q P D) (hs : Small D) (i : Bool) (k : Int) : Calls Try.prog 96 #[.pointer (some ⟨q i, 0, none⟩), .int .i64 k] w (OneTwo B pp q D i ((D i).restartO P k) w) :=
  one_two (f := .func 0) h i _ (fun F T => drestart_any k w (T.one i) (T.pone i) (TwoAt.new i) (Nat.le_trans (hs.ln i) (by decide)))
/-- An act on the first disk. -/
def FirstIs (B pp : Nat) (q : Bool → Nat) (D' : Bool → Dsk) (o : Out) (w : World) (e : Ending) (w' : World) : Prop :=
  ∃ s, e = .returned (.tuple #[.string s, .int .i64 o.e]) ∧ Two w' B pp q o.p D' ∧ (∃ G : Nat → Prop, FrG G diskTs w w') ∧ Below B w w'
theorem do_first (w : World) (a : Act) (A' : Option Addr) (c' : Nat) (o : Out) (D' : Bool → Dsk) (ho : (D false).actO P a.first = o) (hD' : upd D false o.d = D') (h : Two w B pp q P D) (hs : Small D) (hb : BytesB w B A' a.bs) (hcap : a.bs.length ≤ c') (h63 : a.bs.length ≤ 140737488351232) :
    Calls Try.prog 99 #[.agg #[.pointer (some ⟨pp, 0, none⟩), .pointer (some ⟨q false, 0, none⟩), .pointer (some ⟨q true, 0, none⟩)], .agg #[.int .u8 0, .int .u8 (a.kind.toNat : Int), .int .u64 a.key, .int .i64 a.at_, .slice A' a.bs.length c', .bool a.force]] w (FirstIs B pp q D' o w) := by
  refine (do_two B pp q P D a.first A' c' w h hs hb hcap h63).mono ?_
  rintro e w' ⟨rfl, hT, hF, hb2⟩
  rw [Act.side_first] at hT ⊢
  rw [ho] at hT ⊢
  rw [hD'] at hT
  exact ⟨_, rfl, hT, hF, hb2⟩
end
theorem acq_new (g : Geo) (l0 l1 : List Flt) (key : Int) : (newSt g l0 l1 false).acqO Pow.new key = ⟨0, { newSt g l0 l1 false with key := key }, Pow.new⟩ := rfl
/-- A disk with another key. -/
theorem Dsk.actO_fence {D : Dsk} {a : Act} (ha : a.op = true) (hk : a.key = 0) (hD : D.key ≠ 0) (hs : D.state Pow.new = 0) : D.actO Pow.new a = ⟨17, D, Pow.new⟩ := by
  have hb : D.begin_ Pow.new a.key = ⟨Pow.new, D, 17, ⟨0, 0, 0⟩⟩ := Dsk.begin_key hs rfl (by rw [hk]; exact fun e => hD e.symm)
  rw [Dsk.actO_stop ha (by rw [hb]; show (17 : Int) ≠ 0; decide), hb]

set_option maxHeartbeats 8000000 in
set_option maxRecDepth 1000000 in
theorem law_DiskFences (r b t s o : Int) (A0 : Option Addr) (l0 : List Flt) (c0 : Nat) (A1 : Option Addr) (l1 : List Flt) (c1 : Nat) (A2 : Option Addr) (la : List Act) (c2 : Nat) (key : Int) (w : World) (h0 : FltsRd w A0 l0) (hl0 : l0.length * 24 ≤ 140737488351232) (h1 : FltsRd w A1 l1) (hl1 : l1.length * 24 ≤ 140737488351232) (h2 : ActsB w w.heap.size A2 la) (hla : la.length ≤ 140737488351232) :
    Calls Try.prog 25 #[.agg (caseCells r b t s o (.slice A0 l0.length c0) (.slice A1 l1.length c1) (.slice A2 la.length c2)), .int .u64 key] w fun e w' => e = .returned (.bool true) ∧ Below w.heap.size w w' := by
  have H0 := Lib.hid h0
  have H1 := Lib.hid h1
  have H2 := Lib.hid h2
  clear h0 h1 h2
  cases hfa : fair14 (Geo.mk r b t s o) l0 l1 la with
  | false =>
    go_enter Try.func25, Try.ntmps25
    go_wp2_with (first | (go_at_call 81; refine (awake14_any _).mono ?_; rintro e w' ⟨rfl, hb⟩; (first | ((first | have hB1 := below_of hb hB | have hB1 := below_of hb (Below.drew hB) | have hB1 := below_of hb (below_drw hB _)); clear hB hb hc hf hz; have hB := hB1; clear hB1; obtain ⟨hc, hf, hz⟩ := bcell hB) | ((first | have hB1 := below_of hb (below_alloc hB _) | have hB1 := below_of hb (below_alloc (below_alloc hB _) _) | have hB1 := below_of hb (below_alloc (below_alloc (below_alloc hB _) _) _) | have hB1 := below_of hb (below_alloc (below_alloc (below_alloc (below_alloc hB _) _) _) _) | have hB1 := below_of hb (below_alloc (below_alloc (below_alloc (below_alloc (below_alloc hB _) _) _) _) _) | have hB1 := below_of hb (Below.drew (below_alloc hB _)) | have hB1 := below_of hb (Below.drew (below_alloc (below_alloc hB _) _)) | have hB1 := below_of hb (Below.drew (below_alloc (below_alloc (below_alloc hB _) _) _)) | have hB1 := below_of hb (Below.drew (below_alloc (below_alloc (below_alloc (below_alloc hB _) _) _) _)) | have hB1 := below_of hb (Below.drew (below_alloc (below_alloc (below_alloc (below_alloc (below_alloc hB _) _) _) _) _)) | have hB1 := below_of hb (below_drw (below_alloc hB _) _) | have hB1 := below_of hb (below_drw (below_alloc (below_alloc hB _) _) _) | have hB1 := below_of hb (below_drw (below_alloc (below_alloc (below_alloc hB _) _) _) _) | have hB1 := below_of hb (below_drw (below_alloc (below_alloc (below_alloc (below_alloc hB _) _) _) _) _) | have hB1 := below_of hb (below_drw (below_alloc (below_alloc (below_alloc (below_alloc (below_alloc hB _) _) _) _) _) _)); clear hB hc hf hz; have hB := hB1; clear hB1; obtain ⟨hc, hf, hz⟩ := bcell hB; obtain ⟨hc_, hf_, hz_⟩ := bcell hb; clear hb) | (have hB := hb; clear hb; obtain ⟨hc, hf, hz⟩ := bcell hB))) | (go_at_call 91; refine (fair14_at (w0 := w) (by repeat (first | (with_reducible exact Below.refl _ _) | (with_reducible refine Below.drew ?_) | (with_reducible refine below_drw ?_ _) | (with_reducible refine below_alloc ?_ _) | (with_reducible refine below_set ?_ (by simp <;> omega) _) | (refine below_of (by assumption) ?_))) H0.out H1.out H2.out hl0 hl1 hla).mono ?_; rintro e w' ⟨rfl, hb⟩; rw [hfa]; (first | ((first | have hB1 := below_of hb hB | have hB1 := below_of hb (Below.drew hB) | have hB1 := below_of hb (below_drw hB _)); clear hB hb hc hf hz; have hB := hB1; clear hB1; obtain ⟨hc, hf, hz⟩ := bcell hB) | ((first | have hB1 := below_of hb (below_alloc hB _) | have hB1 := below_of hb (below_alloc (below_alloc hB _) _) | have hB1 := below_of hb (below_alloc (below_alloc (below_alloc hB _) _) _) | have hB1 := below_of hb (below_alloc (below_alloc (below_alloc (below_alloc hB _) _) _) _) | have hB1 := below_of hb (below_alloc (below_alloc (below_alloc (below_alloc (below_alloc hB _) _) _) _) _) | have hB1 := below_of hb (Below.drew (below_alloc hB _)) | have hB1 := below_of hb (Below.drew (below_alloc (below_alloc hB _) _)) | have hB1 := below_of hb (Below.drew (below_alloc (below_alloc (below_alloc hB _) _) _)) | have hB1 := below_of hb (Below.drew (below_alloc (below_alloc (below_alloc (below_alloc hB _) _) _) _)) | have hB1 := below_of hb (Below.drew (below_alloc (below_alloc (below_alloc (below_alloc (below_alloc hB _) _) _) _) _)) | have hB1 := below_of hb (below_drw (below_alloc hB _) _) | have hB1 := below_of hb (below_drw (below_alloc (below_alloc hB _) _) _) | have hB1 := below_of hb (below_drw (below_alloc (below_alloc (below_alloc hB _) _) _) _) | have hB1 := below_of hb (below_drw (below_alloc (below_alloc (below_alloc (below_alloc hB _) _) _) _) _) | have hB1 := below_of hb (below_drw (below_alloc (below_alloc (below_alloc (below_alloc (below_alloc hB _) _) _) _) _) _)); clear hB hc hf hz; have hB := hB1; clear hB1; obtain ⟨hc, hf, hz⟩ := bcell hB; obtain ⟨hc_, hf_, hz_⟩ := bcell hb; clear hb) | (have hB := hb; clear hb; obtain ⟨hc, hf, hz⟩ := bcell hB))))
    all_goals go_ret
    all_goals exact ⟨rfl, (by repeat (first | (with_reducible exact Below.refl _ _) | (with_reducible refine Below.drew ?_) | (with_reducible refine below_drw ?_ _) | (with_reducible refine below_alloc ?_ _) | (with_reducible refine below_set ?_ (by simp <;> omega) _) | (refine below_of (by assumption) ?_)))⟩
  | true =>
    by_cases hkey : key = 0
    · subst hkey
      go_enter Try.func25, Try.ntmps25
      go_wp2_with (first | (go_at_call 81; refine (awake14_any _).mono ?_; rintro e w' ⟨rfl, hb⟩; (first | ((first | have hB1 := below_of hb hB | have hB1 := below_of hb (Below.drew hB) | have hB1 := below_of hb (below_drw hB _)); clear hB hb hc hf hz; have hB := hB1; clear hB1; obtain ⟨hc, hf, hz⟩ := bcell hB) | ((first | have hB1 := below_of hb (below_alloc hB _) | have hB1 := below_of hb (below_alloc (below_alloc hB _) _) | have hB1 := below_of hb (below_alloc (below_alloc (below_alloc hB _) _) _) | have hB1 := below_of hb (below_alloc (below_alloc (below_alloc (below_alloc hB _) _) _) _) | have hB1 := below_of hb (below_alloc (below_alloc (below_alloc (below_alloc (below_alloc hB _) _) _) _) _) | have hB1 := below_of hb (Below.drew (below_alloc hB _)) | have hB1 := below_of hb (Below.drew (below_alloc (below_alloc hB _) _)) | have hB1 := below_of hb (Below.drew (below_alloc (below_alloc (below_alloc hB _) _) _)) | have hB1 := below_of hb (Below.drew (below_alloc (below_alloc (below_alloc (below_alloc hB _) _) _) _)) | have hB1 := below_of hb (Below.drew (below_alloc (below_alloc (below_alloc (below_alloc (below_alloc hB _) _) _) _) _)) | have hB1 := below_of hb (below_drw (below_alloc hB _) _) | have hB1 := below_of hb (below_drw (below_alloc (below_alloc hB _) _) _) | have hB1 := below_of hb (below_drw (below_alloc (below_alloc (below_alloc hB _) _) _) _) | have hB1 := below_of hb (below_drw (below_alloc (below_alloc (below_alloc (below_alloc hB _) _) _) _) _) | have hB1 := below_of hb (below_drw (below_alloc (below_alloc (below_alloc (below_alloc (below_alloc hB _) _) _) _) _) _)); clear hB hc hf hz; have hB := hB1; clear hB1; obtain ⟨hc, hf, hz⟩ := bcell hB; obtain ⟨hc_, hf_, hz_⟩ := bcell hb; clear hb) | (have hB := hb; clear hb; obtain ⟨hc, hf, hz⟩ := bcell hB))) | (go_at_call 91; refine (fair14_at (w0 := w) (by repeat (first | (with_reducible exact Below.refl _ _) | (with_reducible refine Below.drew ?_) | (with_reducible refine below_drw ?_ _) | (with_reducible refine below_alloc ?_ _) | (with_reducible refine below_set ?_ (by simp <;> omega) _) | (refine below_of (by assumption) ?_))) H0.out H1.out H2.out hl0 hl1 hla).mono ?_; rintro e w' ⟨rfl, hb⟩; rw [hfa]; (first | ((first | have hB1 := below_of hb hB | have hB1 := below_of hb (Below.drew hB) | have hB1 := below_of hb (below_drw hB _)); clear hB hb hc hf hz; have hB := hB1; clear hB1; obtain ⟨hc, hf, hz⟩ := bcell hB) | ((first | have hB1 := below_of hb (below_alloc hB _) | have hB1 := below_of hb (below_alloc (below_alloc hB _) _) | have hB1 := below_of hb (below_alloc (below_alloc (below_alloc hB _) _) _) | have hB1 := below_of hb (below_alloc (below_alloc (below_alloc (below_alloc hB _) _) _) _) | have hB1 := below_of hb (below_alloc (below_alloc (below_alloc (below_alloc (below_alloc hB _) _) _) _) _) | have hB1 := below_of hb (Below.drew (below_alloc hB _)) | have hB1 := below_of hb (Below.drew (below_alloc (below_alloc hB _) _)) | have hB1 := below_of hb (Below.drew (below_alloc (below_alloc (below_alloc hB _) _) _)) | have hB1 := below_of hb (Below.drew (below_alloc (below_alloc (below_alloc (below_alloc hB _) _) _) _)) | have hB1 := below_of hb (Below.drew (below_alloc (below_alloc (below_alloc (below_alloc (below_alloc hB _) _) _) _) _)) | have hB1 := below_of hb (below_drw (below_alloc hB _) _) | have hB1 := below_of hb (below_drw (below_alloc (below_alloc hB _) _) _) | have hB1 := below_of hb (below_drw (below_alloc (below_alloc (below_alloc hB _) _) _) _) | have hB1 := below_of hb (below_drw (below_alloc (below_alloc (below_alloc (below_alloc hB _) _) _) _) _) | have hB1 := below_of hb (below_drw (below_alloc (below_alloc (below_alloc (below_alloc (below_alloc hB _) _) _) _) _) _)); clear hB hc hf hz; have hB := hB1; clear hB1; obtain ⟨hc, hf, hz⟩ := bcell hB; obtain ⟨hc_, hf_, hz_⟩ := bcell hb; clear hb) | (have hB := hb; clear hb; obtain ⟨hc, hf, hz⟩ := bcell hB))))
      all_goals go_ret
      all_goals exact ⟨rfl, (by repeat (first | (with_reducible exact Below.refl _ _) | (with_reducible refine Below.drew ?_) | (with_reducible refine below_drw ?_ _) | (with_reducible refine below_alloc ?_ _) | (with_reducible refine below_set ?_ (by simp <;> omega) _) | (refine below_of (by assumption) ?_)))⟩
    · obtain ⟨hv, _, hn60, hm0, hm1, h100, hf0, hf1⟩ := fair14_ok hfa
      have hkb : (key == 0) = false := by simpa using hkey
      have HK := Lib.hid hkey
      have HS := Lib.hid (small_new (Geo.mk r b t s o) l0 l1 (by omega) (by omega))
      have HF0 := Lib.hid hf0
      have HF1 := Lib.hid hf1
      have bx := Row.new w 102 (caseCells r b t s o (.slice A0 l0.length c0) (.slice A1 l1.length c1) (.slice A2 la.length c2))
      have BX := Lib.hid bx
      clear hkey hf0 hf1 bx
      go_enter Try.func25, Try.ntmps25
      go_wp2_with (first | (go_at_call 81; refine (awake14_any _).mono ?_; rintro e w' ⟨rfl, hb⟩; (first | ((first | have hB1 := below_of hb hB | have hB1 := below_of hb (Below.drew hB) | have hB1 := below_of hb (below_drw hB _)); clear hB hb hc hf hz; have hB := hB1; clear hB1; obtain ⟨hc, hf, hz⟩ := bcell hB) | ((first | have hB1 := below_of hb (below_alloc hB _) | have hB1 := below_of hb (below_alloc (below_alloc hB _) _) | have hB1 := below_of hb (below_alloc (below_alloc (below_alloc hB _) _) _) | have hB1 := below_of hb (below_alloc (below_alloc (below_alloc (below_alloc hB _) _) _) _) | have hB1 := below_of hb (below_alloc (below_alloc (below_alloc (below_alloc (below_alloc hB _) _) _) _) _) | have hB1 := below_of hb (Below.drew (below_alloc hB _)) | have hB1 := below_of hb (Below.drew (below_alloc (below_alloc hB _) _)) | have hB1 := below_of hb (Below.drew (below_alloc (below_alloc (below_alloc hB _) _) _)) | have hB1 := below_of hb (Below.drew (below_alloc (below_alloc (below_alloc (below_alloc hB _) _) _) _)) | have hB1 := below_of hb (Below.drew (below_alloc (below_alloc (below_alloc (below_alloc (below_alloc hB _) _) _) _) _)) | have hB1 := below_of hb (below_drw (below_alloc hB _) _) | have hB1 := below_of hb (below_drw (below_alloc (below_alloc hB _) _) _) | have hB1 := below_of hb (below_drw (below_alloc (below_alloc (below_alloc hB _) _) _) _) | have hB1 := below_of hb (below_drw (below_alloc (below_alloc (below_alloc (below_alloc hB _) _) _) _) _) | have hB1 := below_of hb (below_drw (below_alloc (below_alloc (below_alloc (below_alloc (below_alloc hB _) _) _) _) _) _)); clear hB hc hf hz; have hB := hB1; clear hB1; obtain ⟨hc, hf, hz⟩ := bcell hB; obtain ⟨hc_, hf_, hz_⟩ := bcell hb; clear hb) | (have hB := hb; clear hb; obtain ⟨hc, hf, hz⟩ := bcell hB))) | (go_at_call 91; refine (fair14_at (w0 := w) (by repeat (first | (with_reducible exact Below.refl _ _) | (with_reducible refine Below.drew ?_) | (with_reducible refine below_drw ?_ _) | (with_reducible refine below_alloc ?_ _) | (with_reducible refine below_set ?_ (by simp <;> omega) _) | (refine below_of (by assumption) ?_))) H0.out H1.out H2.out hl0 hl1 hla).mono ?_; rintro e w' ⟨rfl, hb⟩; rw [hfa]; (first | ((first | have hB1 := below_of hb hB | have hB1 := below_of hb (Below.drew hB) | have hB1 := below_of hb (below_drw hB _)); clear hB hb hc hf hz; have hB := hB1; clear hB1; obtain ⟨hc, hf, hz⟩ := bcell hB) | ((first | have hB1 := below_of hb (below_alloc hB _) | have hB1 := below_of hb (below_alloc (below_alloc hB _) _) | have hB1 := below_of hb (below_alloc (below_alloc (below_alloc hB _) _) _) | have hB1 := below_of hb (below_alloc (below_alloc (below_alloc (below_alloc hB _) _) _) _) | have hB1 := below_of hb (below_alloc (below_alloc (below_alloc (below_alloc (below_alloc hB _) _) _) _) _) | have hB1 := below_of hb (Below.drew (below_alloc hB _)) | have hB1 := below_of hb (Below.drew (below_alloc (below_alloc hB _) _)) | have hB1 := below_of hb (Below.drew (below_alloc (below_alloc (below_alloc hB _) _) _)) | have hB1 := below_of hb (Below.drew (below_alloc (below_alloc (below_alloc (below_alloc hB _) _) _) _)) | have hB1 := below_of hb (Below.drew (below_alloc (below_alloc (below_alloc (below_alloc (below_alloc hB _) _) _) _) _)) | have hB1 := below_of hb (below_drw (below_alloc hB _) _) | have hB1 := below_of hb (below_drw (below_alloc (below_alloc hB _) _) _) | have hB1 := below_of hb (below_drw (below_alloc (below_alloc (below_alloc hB _) _) _) _) | have hB1 := below_of hb (below_drw (below_alloc (below_alloc (below_alloc (below_alloc hB _) _) _) _) _) | have hB1 := below_of hb (below_drw (below_alloc (below_alloc (below_alloc (below_alloc (below_alloc hB _) _) _) _) _) _)); clear hB hc hf hz; have hB := hB1; clear hB1; obtain ⟨hc, hf, hz⟩ := bcell hB; obtain ⟨hc_, hf_, hz_⟩ := bcell hb; clear hb) | (have hB := hb; clear hb; obtain ⟨hc, hf, hz⟩ := bcell hB))) | (go_at_call 92; refine (start14_any r b t s o A0 l0 c0 A1 l1 c1 A2 la.length c2 _ hv HF0.out HF1.out (H0.out.below (by repeat (first | (with_reducible exact Below.refl _ _) | (with_reducible refine Below.drew ?_) | (with_reducible refine below_drw ?_ _) | (with_reducible refine below_alloc ?_ _) | (with_reducible refine below_set ?_ (by simp <;> omega) _) | (refine below_of (by assumption) ?_)))) (H1.out.below (by repeat (first | (with_reducible exact Below.refl _ _) | (with_reducible refine Below.drew ?_) | (with_reducible refine below_drw ?_ _) | (with_reducible refine below_alloc ?_ _) | (with_reducible refine below_set ?_ (by simp <;> omega) _) | (refine below_of (by assumption) ?_)))) hl0 hl1).mono ?_; rintro e w' ⟨pp, q, rfl, hT, hb⟩; have T := Lib.hid (hT.lower (B' := w.heap.size) (Below.size (B := w.heap.size) (by repeat (first | (with_reducible exact Below.refl _ _) | (with_reducible refine Below.drew ?_) | (with_reducible refine below_drw ?_ _) | (with_reducible refine below_alloc ?_ _) | (with_reducible refine below_set ?_ (by simp <;> omega) _) | (refine below_of (by assumption) ?_))))); clear hT; (first | ((first | have hB1 := below_of hb hB | have hB1 := below_of hb (Below.drew hB) | have hB1 := below_of hb (below_drw hB _)); clear hB hb hc hf hz; have hB := hB1; clear hB1; obtain ⟨hc, hf, hz⟩ := bcell hB) | ((first | have hB1 := below_of hb (below_alloc hB _) | have hB1 := below_of hb (below_alloc (below_alloc hB _) _) | have hB1 := below_of hb (below_alloc (below_alloc (below_alloc hB _) _) _) | have hB1 := below_of hb (below_alloc (below_alloc (below_alloc (below_alloc hB _) _) _) _) | have hB1 := below_of hb (below_alloc (below_alloc (below_alloc (below_alloc (below_alloc hB _) _) _) _) _) | have hB1 := below_of hb (Below.drew (below_alloc hB _)) | have hB1 := below_of hb (Below.drew (below_alloc (below_alloc hB _) _)) | have hB1 := below_of hb (Below.drew (below_alloc (below_alloc (below_alloc hB _) _) _)) | have hB1 := below_of hb (Below.drew (below_alloc (below_alloc (below_alloc (below_alloc hB _) _) _) _)) | have hB1 := below_of hb (Below.drew (below_alloc (below_alloc (below_alloc (below_alloc (below_alloc hB _) _) _) _) _)) | have hB1 := below_of hb (below_drw (below_alloc hB _) _) | have hB1 := below_of hb (below_drw (below_alloc (below_alloc hB _) _) _) | have hB1 := below_of hb (below_drw (below_alloc (below_alloc (below_alloc hB _) _) _) _) | have hB1 := below_of hb (below_drw (below_alloc (below_alloc (below_alloc (below_alloc hB _) _) _) _) _) | have hB1 := below_of hb (below_drw (below_alloc (below_alloc (below_alloc (below_alloc (below_alloc hB _) _) _) _) _) _)); clear hB hc hf hz; have hB := hB1; clear hB1; obtain ⟨hc, hf, hz⟩ := bcell hB; obtain ⟨hc_, hf_, hz_⟩ := bcell hb; clear hb) | (have hB := hb; clear hb; obtain ⟨hc, hf, hz⟩ := bcell hB))) | (go_at_call 100; refine (acquire_two _ (T.out.below ((Below.refl _ _).alloc (Nat.le_refl _) _)) false key).mono ?_; rintro e w2 ⟨rfl, hT2, ⟨G2, hF2⟩, hb2⟩; rw [acq_new] at hT2 ⊢; have X2 := Lib.hid ((Row.new w' 106 (pairCells (at0 pp) (at0 (q false)) (at0 (q true)))).fr hF2 ((avoid_TG (Us := [106]) (by decide)).not (Row.new w' 106 (pairCells (at0 pp) (at0 (q false)) (at0 (q true)))).hasT (by simp))); have hC := ((BX.out.below hB).alloc (.cells (pairCells (at0 pp) (at0 (q false)) (at0 (q true))) 106)); have hC2 := hC.fr hF2 ((avoid_TG (Us := [102]) (by decide)).not hC.hasT (by simp)); have y7 := hC2.cell (i := 7) rfl; have lc := hC2.lt; have E2 := Lib.hid ((below_alloc (show Below w.heap.size w w' from (by repeat (first | (with_reducible exact Below.refl _ _) | (with_reducible refine Below.drew ?_) | (with_reducible refine below_drw ?_ _) | (with_reducible refine below_alloc ?_ _) | (with_reducible refine below_set ?_ (by simp <;> omega) _) | (refine below_of (by assumption) ?_)))) _).trans hb2); have T2 := Lib.hid hT2; have T2' := T; clear hT2 hF2 hb2 hB hc hf hz hC hC2 T) | (go_at_call 98; refine (only14_any w.heap.size A2 la c2 _ E2.out.size (H2.out.below E2.out) (by omega)).mono ?_; rintro e w3 ⟨v3, rfl, hrow, hb3⟩; obtain ⟨A4, c4, rfl, hA⟩ := ActsAt.of hrow E2.out.size; have HA := Lib.hid hA; have E3 := Lib.hid (below_of hb3 E2.out); have T3 := Lib.hid (T2.out.below hb3); have X3 := Lib.hid (X2.out.below hb3); clear hrow hb3 hA))
      have hon : (only la).length ≤ 60 := Nat.le_trans (only_len la) hn60
      have HON := Lib.hid (fun a (ha : a ∈ only la) => only_op ha)
      obtain ⟨D2, hD2⟩ : ∃ D2, upd (newSt (Geo.mk r b t s o) l0 l1) false { newSt (Geo.mk r b t s o) l0 l1 false with key := key } = D2 := ⟨_, rfl⟩
      have hTT := T3.out
      simp only [hD2] at hTT
      have T4 := Lib.hid hTT
      have hS2 : Small D2 := by rw [← hD2]; exact HS.out.upd (HS.out.fl false) (HS.out.ln false)
      have hK2 : (D2 false).key ≠ 0 := by rw [← hD2, upd_same]; exact HK.out
      have hs2 : (D2 false).state Pow.new = 0 := by rw [← hD2, upd_same]; rfl
      have hc2 : (D2 false).count = 0 ∧ (D2 false).c.l.length = 0 ∧ (D2 false).s0 = 0 ∧ (D2 false).s1 = 0 ∧ (D2 false).s2 = 0 ∧ (D2 false).s3 = 0 := by rw [← hD2, upd_same]; exact ⟨rfl, rfl, rfl, rfl, rfl, rfl⟩
      have HX := Lib.hid (fun a (ha : a ∈ only la) => Dsk.actO_fence (D := D2 false) (a := a.first) (HON.out a ha).1 (HON.out a ha).2.1 hK2 hs2)
      have HL := Lib.hid (fun a (ha : a ∈ only la) => (by obtain ⟨b, hb, rfl⟩ := (HON.out a ha).2.2; exact Nat.le_trans (h100 b hb) (by decide) : a.bs.length ≤ 140737488351232))
      have HS2 := Lib.hid hS2
      have HC2 := Lib.hid hc2
      have hrm : ∃ nx, w'.heap.size = nx := ⟨_, rfl⟩
      clear hTT hD2 hS2 hK2 hs2 hc2 T2 T3 T2' X2 y7 E2 hrm
      go_loopw [8] (fun i wr => ∃ j : Nat, j ≤ (only la).length ∧ i = .int .i64 j ∧ Two wr w.heap.size pp q Pow.new D2 ∧ ActsAt wr w.heap.size A4 (only la) j ∧ Row 106 w'.heap.size (pairCells (at0 pp) (at0 (q false)) (at0 (q true))) wr ∧ Below w.heap.size w wr) (fun i _ => (only la).length - (intOf i).toNat)
      case atStart => exact ⟨0, Nat.zero_le _, rfl, T4.out, HA.out, X3.out, E3.out⟩
      case round =>
        obtain ⟨j, hj, rfl, hT, hA, hX, hE⟩ := hrel
        by_cases hjn : j < (only la).length
        · have ho : (only la)[j]? = some (only la)[j] := List.getElem?_eq_getElem hjn
          have hmem : (only la)[j] ∈ only la := List.getElem_mem hjn
          generalize (only la)[j] = a at *
          obtain ⟨g, A', c', rfl, hgB, hgT, hgx, hgl, hk0, hfz, hcap, hby, hHA⟩ := acts_first hA ho hX hE.size
          have hA1 := hA.store rfl hE.size
          have hX1 := hX.other hgx (j * 6) (.int .u8 0)
          have hE1 := below_set hE (p := ⟨g, j * 6, none⟩) hgB (.int .u8 0)
          have hT1 := hT.act hgT (j * 6) (.int .u8 0)
          have hb1 := hby.below ((Below.refl w.heap.size wr).setCell (p := ⟨g, j * 6, none⟩) hgB (.int .u8 0))
          have hg1 := hgT.setCell ⟨g, j * 6, none⟩ (.int .u8 0)
          have dr := (Below.refl (wr.setCell ⟨g, j * 6, none⟩ (.int .u8 0)).heap.size (wr.setCell ⟨g, j * 6, none⟩ (.int .u8 0))).drew
          have TD := Lib.hid (hT1.below dr)
          have AD := Lib.hid (hA1.below hE1.size dr)
          have XD := Lib.hid (hX1.below dr)
          have ED := Lib.hid hE1.drew
          have BD := Lib.hid (hb1.below (dr.mono hE1.size))
          have HD := Lib.hid hHA.drew
          have GD := Lib.hid (show HasT (wr.setCell ⟨g, j * 6, none⟩ (.int .u8 0)).drew g 113 from hg1)
          have Hm := Lib.hid hmem
          clear hA hX hE hT hA1 hX1 hE1 hT1 hb1 hg1 dr hby hHA hgT ho hmem
          go_wp2_with fail
          go_region_held3 (fun W_ => W_.cell? ⟨w'.heap.size, 0, none⟩ = some (.pointer (at0 pp)) ∧ W_.cell? ⟨w'.heap.size, 1, none⟩ = some (.pointer (at0 (q false))) ∧ W_.cell? ⟨w'.heap.size, 2, none⟩ = some (.pointer (at0 (q true))) ∧ W_.cell? ⟨g, j * 6, none⟩ = some (.int .u8 0) ∧ W_.cell? ⟨g, j * 6 + 1, none⟩ = some (.int .u8 (a.kind.toNat : Int)) ∧ W_.cell? ⟨g, j * 6 + 2, none⟩ = some (.int .u64 a.key) ∧ W_.cell? ⟨g, j * 6 + 3, none⟩ = some (.int .i64 a.at_) ∧ W_.cell? ⟨g, j * 6 + 4, none⟩ = some (.slice A' a.bs.length c') ∧ W_.cell? ⟨g, j * 6 + 5, none⟩ = some (.bool a.force)) (first | exact HD.out | exact HS5.out) (first | (go_at_call 99; refine (do_first _ a A' c' ⟨17, D2 false, Pow.new⟩ D2 (HX.out a Hm.out) (upd_self _ _) TD.out HS2.out BD.out hcap (HL.out a Hm.out)).mono ?_; rintro e w5 ⟨sx, rfl, hT5, ⟨G5, hF5⟩, hb5⟩; have HS5 := Lib.hid (HD.out.frG hF5 XD.out.hasT GD.out (by decide)); have A5 := Lib.hid (AD.out.frG hF5 hb5 (by decide)); have X5 := Lib.hid (XD.out.fr hF5 ((avoid_TG (Us := [106]) (by decide)).not XD.out.hasT (by simp))); have E5 := Lib.hid (ED.out.trans hb5); have T5 := Lib.hid hT5; clear hT5 hF5 hb5))
          all_goals (try go_wp2)
          all_goals go_roundw
          case rel => exact ⟨j + 1, by omega, by go_num, T5.out, A5.out, X5.out, E5.out⟩
          case measure => simp [intOf]; omega
        · have y1 := hX.cell (i := 1) rfl
          have lx := hX.lt
          obtain ⟨G9, hd9, _⟩ := hT.disk false
          have D9 := Lib.hid hd9
          have E9 := Lib.hid hE
          obtain ⟨e0, e1, e2, e3, e4, e5⟩ := HC2.out
          have N0 := Lib.hid e0
          have N1 := Lib.hid e1
          have N2 := Lib.hid e2
          have N3 := Lib.hid e3
          have N4 := Lib.hid e4
          have N5 := Lib.hid e5
          clear hA hX hE hT hd9 e0 e1 e2 e3 e4 e5
          go_wp2_with (first | (go_at_call 87; refine (dops_any _ D9.out).mono ?_; rintro e w6 ⟨rfl, rfl⟩; rw [N0.out]) | (go_at_call 88; refine (dpending_any _ D9.out).mono ?_; rintro e w6 ⟨rfl, rfl⟩; rw [N1.out]) | (go_at_call 90; refine (dstats_any _ D9.out).mono ?_; rintro e w6 ⟨rfl, hb6⟩; rw [N2.out, N3.out, N4.out, N5.out]; have E10 := Lib.hid (below_of hb6 E9.out); clear hb6))
          all_goals go_ret
          all_goals exact ⟨rfl, E10.out⟩
end Go.Proofs.Ytmloiifnadaaoaa
/- The law DiskStays. -/
namespace Go.Proofs.Ytmloiifnadaaoaa
open Go.RowKit
set_option linter.unusedVariables false
set_option linter.unusedSimpArgs false

/-- Under way in a law: the pair, the local variable that holds it, the case. -/
structure Lw (w : World) (nx : Nat) (cc : Array Value) (pp : Nat) (q : Bool → Nat) (P : Pow) (D : Bool → Dsk) (W : World) : Prop where
  two : Two W w.heap.size pp q P D
  par : Row 106 nx (pairCells (at0 pp) (at0 (q false)) (at0 (q true))) W
  box : Row 102 w.heap.size cc W
  bel : Below w.heap.size w W
namespace Lw
variable {w W W' : World} {nx : Nat} {cc : Array Value} {pp : Nat} {q : Bool → Nat} {P P' : Pow} {D D' : Bool → Dsk} {G : Nat → Prop} {Ts : List TypeId}
theorem step (h : Lw w nx cc pp q P D W) (hT : Two W' w.heap.size pp q P' D') (hF : FrG G diskTs W W') (hb : Below w.heap.size W W') : Lw w nx cc pp q P' D' W' :=
  ⟨hT, h.par.fr hF ((avoid_TG (Us := [106]) (by decide)).not h.par.hasT (by simp)), h.box.fr hF ((avoid_TG (Us := [102]) (by decide)).not h.box.hasT (by simp)), h.bel.trans hb⟩
theorem below (h : Lw w nx cc pp q P D W) (hb : Below W.heap.size W W') : Lw w nx cc pp q P D W' := ⟨h.two.below hb, h.par.below hb, h.box.below hb, below_of hb h.bel⟩
theorem act (h : Lw w nx cc pp q P D W) {g : Nat} (hg : HasT W g 113) (hB : w.heap.size ≤ g) (i : Nat) (v : Value) : Lw w nx cc pp q P D (W.setCell ⟨g, i, none⟩ v) :=
  ⟨h.two.act hg i v, h.par.other (hg.ne h.par.hasT (by decide)) i v, h.box.other (hg.ne h.box.hasT (by decide)) i v, below_set h.bel (p := ⟨g, i, none⟩) hB v⟩
theorem c0 (h : Lw w nx cc pp q P D W) : W.cell? ⟨nx, 0, none⟩ = some (.pointer (at0 pp)) := h.par.cell rfl
theorem c1 (h : Lw w nx cc pp q P D W) : W.cell? ⟨nx, 1, none⟩ = some (.pointer (at0 (q false))) := h.par.cell rfl
theorem c2 (h : Lw w nx cc pp q P D W) : W.cell? ⟨nx, 2, none⟩ = some (.pointer (at0 (q true))) := h.par.cell rfl
theorem lx (h : Lw w nx cc pp q P D W) : nx < W.heap.size := h.par.lt
end Lw
/-- A power supply's operation leaves the pair. -/
def PowTwo (B pp : Nat) (q : Bool → Nat) (P : Pow) (D : Bool → Dsk) (w : World) (e : Ending) (w' : World) : Prop :=
  e = .returned (.tuple #[]) ∧ Two w' B pp q P D ∧ (∃ G : Nat → Prop, FrG G diskTs w w') ∧ Below B w w'
section
variable {B pp : Nat} {q : Bool → Nat} {P : Pow} {D : Bool → Dsk}
theorem pow_two {P' : Pow} {n : Nat} {args : Array Value} {w : World} (h : Two w B pp q P D) (hc : ∀ G, IsPow w G pp P → Calls Try.prog n args w (fun e w' => e = .returned (.tuple #[]) ∧ IsPow w' G pp P' ∧ Fr (· = pp) w w')) : Calls Try.prog n args w (PowTwo B pp q P' D w) := by
  obtain ⟨F, T⟩ := h
  refine (hc (· = pp) T.pow).mono ?_
  rintro e w' ⟨rfl, hP, hF⟩
  have hG := frG_pow T.pow hF
  have hB := T.lt
  have hl := T.lp
  exact ⟨rfl, ⟨F, hP, fun i => (T.dsk i).keepA hF (avoid_one T.pow.hasP (by decide)), T.le, T.lp, T.np, T.apart⟩, ⟨_, hG⟩, hG.below hB (fun k hk => by have h9 : k = pp := hk; omega)⟩
theorem arm_two (w : World) (h : Two w B pp q P D) (n : Int) : Calls Try.prog 93 #[.pointer (some ⟨pp, 0, none⟩), .int .i64 n] w (PowTwo B pp q (P.arm n) D w) := pow_two h (fun G hp => darm_any n w hp)
theorem on_two (w : World) (h : Two w B pp q P D) : Calls Try.prog 97 #[.pointer (some ⟨pp, 0, none⟩)] w (PowTwo B pp q P.on D w) := pow_two h (fun G hp => don_any w hp)
theorem off_two (w : World) (h : Two w B pp q P D) : Calls Try.prog 95 #[.pointer (some ⟨pp, 0, none⟩)] w fun e w' => e = .returned (.bool P.off) ∧ w = w' := by
  obtain ⟨F, T⟩ := h
  exact doff_any w T.pow
end
/-- The ways of DiskStays. -/
def sP1 : Pow := ⟨false, true, 0, 0⟩
def sP2 : Pow := ⟨true, false, 0, 1⟩
def sP3 : Pow := ⟨false, false, 0, 1⟩
def sD (g : Geo) : Bool → Dsk := newSt g [] []
def sD3 (g : Geo) : Bool → Dsk := upd (sD g) true { sD g true with c := (sD g true).c.cut 0, seen := 1 }
theorem s_arm : Pow.new.arm 0 = sP1 := rfl
theorem s_call : sP1.call = sP2 := by
  show (⟨true, false, 0, inc 0⟩ : Pow) = ⟨true, false, 0, 1⟩
  rw [show inc 0 = 1 by decide +kernel]
theorem s_flush (g : Geo) : (sD g true).flushO sP1 0 = ⟨13, sD g true, sP2⟩ := by
  have hb : (sD g true).begin_ sP1 0 = ⟨sP2, sD g true, 13, ⟨0, 0, 0⟩⟩ := by rw [Dsk.begin_power rfl (by rw [s_call]; rfl), s_call]
  unfold Dsk.flushO
  rw [if_neg (by rw [hb]; show (13 : Int) ≠ 0; decide), hb]
theorem s_restart (g : Geo) : (sD g true).restartO sP2 0 = ⟨0, { sD g true with c := (sD g true).c.cut 0, seen := 1 }, sP2⟩ := rfl
theorem s_on : sP2.on = sP3 := rfl
theorem s_first (g : Geo) : sD3 g false = sD g false := upd_other _ (by decide) _
theorem s_state (g : Geo) : (sD3 g false).state sP3 = 13 := by rw [s_first]; exact Dsk.state_seen rfl (by show (0 : Int) ≠ 1; decide)
theorem s_act (g : Geo) {a : Act} (ha : a.op = true) : (sD3 g false).actO sP3 a = ⟨13, sD3 g false, sP3⟩ := by
  have hb := Dsk.begin_state (D := sD3 g false) (P := sP3) (by rw [s_state]; decide) a.key
  rw [s_state] at hb
  rw [Dsk.actO_stop ha (by rw [hb]; show (13 : Int) ≠ 0; decide), hb]
theorem s_acquire (g : Geo) : (sD3 g false).acqO sP3 1 = ⟨13, sD3 g false, sP3⟩ := by unfold Dsk.acqO; rw [s_state, if_neg (by decide)]
theorem s_again (g : Geo) : (sD3 g false).restartO sP3 0 = ⟨8, sD3 g false, sP3⟩ := by
  unfold Dsk.restartO
  rw [if_neg (by rw [s_first]; exact Bool.false_ne_true), if_pos (show sP3.off = false from rfl)]
theorem s_last (g : Geo) : ((sD3 g true).flushO sP3 0).e = 0 := by
  have hb : ((sD3 g true).begin_ sP3 0).e = 0 := by
    rw [Dsk.begin_go (by unfold sD3; rw [upd_same]; rfl) rfl (by unfold sD3; rw [upd_same]; rfl) (by unfold sD3; rw [upd_same]; show (0 : Int) ≠ 7; decide) (by unfold sD3; rw [upd_same]; show (0 : Int) ≠ 6; decide)]
  unfold Dsk.flushO
  rw [if_pos hb]
theorem s_count (g : Geo) (x : Dsk) : (upd (sD3 g) true x false).count = 0 := by rw [upd_other _ (by decide), s_first]; rfl
theorem s_small (g : Geo) : Small (sD g) ∧ Small (sD3 g) := by
  have h := small_new g [] [] (by decide) (by decide)
  exact ⟨h, Small.upd h (by show (0 : Nat) ≤ _; omega) (by show (0 : Nat) ≤ _; omega)⟩
set_option maxHeartbeats 8000000 in
set_option maxRecDepth 1000000 in
theorem law_DiskStays (r b t s o : Int) (A0 : Option Addr) (l0 : List Flt) (c0 : Nat) (A1 : Option Addr) (l1 : List Flt) (c1 : Nat) (A2 : Option Addr) (la : List Act) (c2 : Nat) (w : World) (h0 : FltsRd w A0 l0) (hl0 : l0.length * 24 ≤ 140737488351232) (h1 : FltsRd w A1 l1) (hl1 : l1.length * 24 ≤ 140737488351232) (h2 : ActsB w w.heap.size A2 la) (hla : la.length ≤ 140737488351232) :
    Calls Try.prog 23 #[.agg (caseCells r b t s o (.slice A0 l0.length c0) (.slice A1 l1.length c1) (.slice A2 la.length c2))] w fun e w' => e = .returned (.bool true) ∧ Below w.heap.size w w' := by
  have N0 := Lib.hid (show FltsRd w none [] from .inl rfl)
  have H2 := Lib.hid h2
  have z0 : ([] : List Flt).length * 24 ≤ 140737488351232 := by decide
  clear h0 h1 h2 hl0 hl1
  cases hfa : fair14 (Geo.mk r b t s o) [] [] la with
  | false =>
    go_enter Try.func23, Try.ntmps23
    go_wp2_with (first | (go_at_call 81; refine (awake14_any _).mono ?_; rintro e w' ⟨rfl, hb⟩; (first | ((first | have hB1 := below_of hb hB | have hB1 := below_of hb (Below.drew hB) | have hB1 := below_of hb (below_drw hB _)); clear hB hb hc hf hz; have hB := hB1; clear hB1; obtain ⟨hc, hf, hz⟩ := bcell hB) | ((first | have hB1 := below_of hb (below_alloc hB _) | have hB1 := below_of hb (below_alloc (below_alloc hB _) _) | have hB1 := below_of hb (below_alloc (below_alloc (below_alloc hB _) _) _) | have hB1 := below_of hb (below_alloc (below_alloc (below_alloc (below_alloc hB _) _) _) _) | have hB1 := below_of hb (below_alloc (below_alloc (below_alloc (below_alloc (below_alloc hB _) _) _) _) _) | have hB1 := below_of hb (Below.drew (below_alloc hB _)) | have hB1 := below_of hb (Below.drew (below_alloc (below_alloc hB _) _)) | have hB1 := below_of hb (Below.drew (below_alloc (below_alloc (below_alloc hB _) _) _)) | have hB1 := below_of hb (Below.drew (below_alloc (below_alloc (below_alloc (below_alloc hB _) _) _) _)) | have hB1 := below_of hb (Below.drew (below_alloc (below_alloc (below_alloc (below_alloc (below_alloc hB _) _) _) _) _)) | have hB1 := below_of hb (below_drw (below_alloc hB _) _) | have hB1 := below_of hb (below_drw (below_alloc (below_alloc hB _) _) _) | have hB1 := below_of hb (below_drw (below_alloc (below_alloc (below_alloc hB _) _) _) _) | have hB1 := below_of hb (below_drw (below_alloc (below_alloc (below_alloc (below_alloc hB _) _) _) _) _) | have hB1 := below_of hb (below_drw (below_alloc (below_alloc (below_alloc (below_alloc (below_alloc hB _) _) _) _) _) _)); clear hB hc hf hz; have hB := hB1; clear hB1; obtain ⟨hc, hf, hz⟩ := bcell hB; obtain ⟨hc_, hf_, hz_⟩ := bcell hb; clear hb) | (have hB := hb; clear hb; obtain ⟨hc, hf, hz⟩ := bcell hB))) | (go_at_call 91; refine (fair14_at (w0 := w) (l0 := []) (l1 := []) (by repeat (first | (with_reducible exact Below.refl _ _) | (with_reducible refine Below.drew ?_) | (with_reducible refine below_drw ?_ _) | (with_reducible refine below_alloc ?_ _) | (with_reducible refine below_set ?_ (by simp <;> omega) _) | (refine below_of (by assumption) ?_))) N0.out N0.out H2.out z0 z0 hla).mono ?_; rintro e w' ⟨rfl, hb⟩; rw [hfa]; (first | ((first | have hB1 := below_of hb hB | have hB1 := below_of hb (Below.drew hB) | have hB1 := below_of hb (below_drw hB _)); clear hB hb hc hf hz; have hB := hB1; clear hB1; obtain ⟨hc, hf, hz⟩ := bcell hB) | ((first | have hB1 := below_of hb (below_alloc hB _) | have hB1 := below_of hb (below_alloc (below_alloc hB _) _) | have hB1 := below_of hb (below_alloc (below_alloc (below_alloc hB _) _) _) | have hB1 := below_of hb (below_alloc (below_alloc (below_alloc (below_alloc hB _) _) _) _) | have hB1 := below_of hb (below_alloc (below_alloc (below_alloc (below_alloc (below_alloc hB _) _) _) _) _) | have hB1 := below_of hb (Below.drew (below_alloc hB _)) | have hB1 := below_of hb (Below.drew (below_alloc (below_alloc hB _) _)) | have hB1 := below_of hb (Below.drew (below_alloc (below_alloc (below_alloc hB _) _) _)) | have hB1 := below_of hb (Below.drew (below_alloc (below_alloc (below_alloc (below_alloc hB _) _) _) _)) | have hB1 := below_of hb (Below.drew (below_alloc (below_alloc (below_alloc (below_alloc (below_alloc hB _) _) _) _) _)) | have hB1 := below_of hb (below_drw (below_alloc hB _) _) | have hB1 := below_of hb (below_drw (below_alloc (below_alloc hB _) _) _) | have hB1 := below_of hb (below_drw (below_alloc (below_alloc (below_alloc hB _) _) _) _) | have hB1 := below_of hb (below_drw (below_alloc (below_alloc (below_alloc (below_alloc hB _) _) _) _) _) | have hB1 := below_of hb (below_drw (below_alloc (below_alloc (below_alloc (below_alloc (below_alloc hB _) _) _) _) _) _)); clear hB hc hf hz; have hB := hB1; clear hB1; obtain ⟨hc, hf, hz⟩ := bcell hB; obtain ⟨hc_, hf_, hz_⟩ := bcell hb; clear hb) | (have hB := hb; clear hb; obtain ⟨hc, hf, hz⟩ := bcell hB))))
    all_goals go_ret
    all_goals exact ⟨rfl, (by repeat (first | (with_reducible exact Below.refl _ _) | (with_reducible refine Below.drew ?_) | (with_reducible refine below_drw ?_ _) | (with_reducible refine below_alloc ?_ _) | (with_reducible refine below_set ?_ (by simp <;> omega) _) | (refine below_of (by assumption) ?_)))⟩
  | true =>
    obtain ⟨hv, _, hn60, _, _, h100, hf0, _⟩ := fair14_ok hfa
    obtain ⟨S1, S3⟩ := s_small (Geo.mk r b t s o)
    have HS := Lib.hid S1
    have HS3 := Lib.hid S3
    have HF0 := Lib.hid hf0
    have bx := Row.new w 102 (caseCells r b t s o (.slice none 0 0) (.slice none 0 0) (.slice A2 la.length c2))
    have BX := Lib.hid bx
    have hon : (only la).length ≤ 60 := Nat.le_trans (only_len la) hn60
    have HON := Lib.hid (fun a (ha : a ∈ only la) => only_op ha)
    have HX := Lib.hid (fun a (ha : a ∈ only la) => s_act (Geo.mk r b t s o) (a := a.first) (HON.out a ha).1)
    have HL := Lib.hid (fun a (ha : a ∈ only la) => (by obtain ⟨b, hb, rfl⟩ := (HON.out a ha).2.2; exact Nat.le_trans (h100 b hb) (by decide) : a.bs.length ≤ 140737488351232))
    obtain ⟨gg, hgg⟩ : ∃ gg, Geo.mk r b t s o = gg := ⟨_, rfl⟩
    have Hgg := Lib.hid hgg
    have FLU := Lib.hid (s_flush gg)
    have RES := Lib.hid (s_restart gg)
    have ACQ := Lib.hid (s_acquire gg)
    have AGN := Lib.hid (s_again gg)
    have LST := Lib.hid (s_last gg)
    have CNT := Lib.hid (s_count gg)
    rw [hgg] at HX HS HS3
    clear hf0 bx S1 S3 hgg
    go_enter Try.func23, Try.ntmps23
    go_wp2_with (first | (go_at_call 81; refine (awake14_any _).mono ?_; rintro e w' ⟨rfl, hb⟩; (first | ((first | have hB1 := below_of hb hB | have hB1 := below_of hb (Below.drew hB) | have hB1 := below_of hb (below_drw hB _)); clear hB hb hc hf hz; have hB := hB1; clear hB1; obtain ⟨hc, hf, hz⟩ := bcell hB) | ((first | have hB1 := below_of hb (below_alloc hB _) | have hB1 := below_of hb (below_alloc (below_alloc hB _) _) | have hB1 := below_of hb (below_alloc (below_alloc (below_alloc hB _) _) _) | have hB1 := below_of hb (below_alloc (below_alloc (below_alloc (below_alloc hB _) _) _) _) | have hB1 := below_of hb (below_alloc (below_alloc (below_alloc (below_alloc (below_alloc hB _) _) _) _) _) | have hB1 := below_of hb (Below.drew (below_alloc hB _)) | have hB1 := below_of hb (Below.drew (below_alloc (below_alloc hB _) _)) | have hB1 := below_of hb (Below.drew (below_alloc (below_alloc (below_alloc hB _) _) _)) | have hB1 := below_of hb (Below.drew (below_alloc (below_alloc (below_alloc (below_alloc hB _) _) _) _)) | have hB1 := below_of hb (Below.drew (below_alloc (below_alloc (below_alloc (below_alloc (below_alloc hB _) _) _) _) _)) | have hB1 := below_of hb (below_drw (below_alloc hB _) _) | have hB1 := below_of hb (below_drw (below_alloc (below_alloc hB _) _) _) | have hB1 := below_of hb (below_drw (below_alloc (below_alloc (below_alloc hB _) _) _) _) | have hB1 := below_of hb (below_drw (below_alloc (below_alloc (below_alloc (below_alloc hB _) _) _) _) _) | have hB1 := below_of hb (below_drw (below_alloc (below_alloc (below_alloc (below_alloc (below_alloc hB _) _) _) _) _) _)); clear hB hc hf hz; have hB := hB1; clear hB1; obtain ⟨hc, hf, hz⟩ := bcell hB; obtain ⟨hc_, hf_, hz_⟩ := bcell hb; clear hb) | (have hB := hb; clear hb; obtain ⟨hc, hf, hz⟩ := bcell hB))) | (go_at_call 91; refine (fair14_at (w0 := w) (l0 := []) (l1 := []) (by repeat (first | (with_reducible exact Below.refl _ _) | (with_reducible refine Below.drew ?_) | (with_reducible refine below_drw ?_ _) | (with_reducible refine below_alloc ?_ _) | (with_reducible refine below_set ?_ (by simp <;> omega) _) | (refine below_of (by assumption) ?_))) N0.out N0.out H2.out z0 z0 hla).mono ?_; rintro e w' ⟨rfl, hb⟩; rw [hfa]; (first | ((first | have hB1 := below_of hb hB | have hB1 := below_of hb (Below.drew hB) | have hB1 := below_of hb (below_drw hB _)); clear hB hb hc hf hz; have hB := hB1; clear hB1; obtain ⟨hc, hf, hz⟩ := bcell hB) | ((first | have hB1 := below_of hb (below_alloc hB _) | have hB1 := below_of hb (below_alloc (below_alloc hB _) _) | have hB1 := below_of hb (below_alloc (below_alloc (below_alloc hB _) _) _) | have hB1 := below_of hb (below_alloc (below_alloc (below_alloc (below_alloc hB _) _) _) _) | have hB1 := below_of hb (below_alloc (below_alloc (below_alloc (below_alloc (below_alloc hB _) _) _) _) _) | have hB1 := below_of hb (Below.drew (below_alloc hB _)) | have hB1 := below_of hb (Below.drew (below_alloc (below_alloc hB _) _)) | have hB1 := below_of hb (Below.drew (below_alloc (below_alloc (below_alloc hB _) _) _)) | have hB1 := below_of hb (Below.drew (below_alloc (below_alloc (below_alloc (below_alloc hB _) _) _) _)) | have hB1 := below_of hb (Below.drew (below_alloc (below_alloc (below_alloc (below_alloc (below_alloc hB _) _) _) _) _)) | have hB1 := below_of hb (below_drw (below_alloc hB _) _) | have hB1 := below_of hb (below_drw (below_alloc (below_alloc hB _) _) _) | have hB1 := below_of hb (below_drw (below_alloc (below_alloc (below_alloc hB _) _) _) _) | have hB1 := below_of hb (below_drw (below_alloc (below_alloc (below_alloc (below_alloc hB _) _) _) _) _) | have hB1 := below_of hb (below_drw (below_alloc (below_alloc (below_alloc (below_alloc (below_alloc hB _) _) _) _) _) _)); clear hB hc hf hz; have hB := hB1; clear hB1; obtain ⟨hc, hf, hz⟩ := bcell hB; obtain ⟨hc_, hf_, hz_⟩ := bcell hb; clear hb) | (have hB := hb; clear hb; obtain ⟨hc, hf, hz⟩ := bcell hB))) | (go_at_call 92; refine (start14_any r b t s o none [] 0 none [] 0 A2 la.length c2 _ hv HF0.out HF0.out (.inl rfl) (.inl rfl) z0 z0).mono ?_; rintro e w' ⟨pp, q, rfl, hT, hb⟩; rw [Hgg.out] at hT; have T := Lib.hid (show Two _ w.heap.size pp q Pow.new (sD gg) from hT.lower (B' := w.heap.size) (Below.size (B := w.heap.size) (by repeat (first | (with_reducible exact Below.refl _ _) | (with_reducible refine Below.drew ?_) | (with_reducible refine below_drw ?_ _) | (with_reducible refine below_alloc ?_ _) | (with_reducible refine below_set ?_ (by simp <;> omega) _) | (refine below_of (by assumption) ?_))))); clear hT; (first | ((first | have hB1 := below_of hb hB | have hB1 := below_of hb (Below.drew hB) | have hB1 := below_of hb (below_drw hB _)); clear hB hb hc hf hz; have hB := hB1; clear hB1; obtain ⟨hc, hf, hz⟩ := bcell hB) | ((first | have hB1 := below_of hb (below_alloc hB _) | have hB1 := below_of hb (below_alloc (below_alloc hB _) _) | have hB1 := below_of hb (below_alloc (below_alloc (below_alloc hB _) _) _) | have hB1 := below_of hb (below_alloc (below_alloc (below_alloc (below_alloc hB _) _) _) _) | have hB1 := below_of hb (below_alloc (below_alloc (below_alloc (below_alloc (below_alloc hB _) _) _) _) _) | have hB1 := below_of hb (Below.drew (below_alloc hB _)) | have hB1 := below_of hb (Below.drew (below_alloc (below_alloc hB _) _)) | have hB1 := below_of hb (Below.drew (below_alloc (below_alloc (below_alloc hB _) _) _)) | have hB1 := below_of hb (Below.drew (below_alloc (below_alloc (below_alloc (below_alloc hB _) _) _) _)) | have hB1 := below_of hb (Below.drew (below_alloc (below_alloc (below_alloc (below_alloc (below_alloc hB _) _) _) _) _)) | have hB1 := below_of hb (below_drw (below_alloc hB _) _) | have hB1 := below_of hb (below_drw (below_alloc (below_alloc hB _) _) _) | have hB1 := below_of hb (below_drw (below_alloc (below_alloc (below_alloc hB _) _) _) _) | have hB1 := below_of hb (below_drw (below_alloc (below_alloc (below_alloc (below_alloc hB _) _) _) _) _) | have hB1 := below_of hb (below_drw (below_alloc (below_alloc (below_alloc (below_alloc (below_alloc hB _) _) _) _) _) _)); clear hB hc hf hz; have hB := hB1; clear hB1; obtain ⟨hc, hf, hz⟩ := bcell hB; obtain ⟨hc_, hf_, hz_⟩ := bcell hb; clear hb) | (have hB := hb; clear hb; obtain ⟨hc, hf, hz⟩ := bcell hB))) | (go_at_call 93; have l0 : Lw w w'.heap.size (caseCells r b t s o (.slice none 0 0) (.slice none 0 0) (.slice A2 la.length c2)) pp q Pow.new (sD gg) (w'.alloc (.cells (pairCells (at0 pp) (at0 (q false)) (at0 (q true))) 106)) := ⟨T.out.below ((Below.refl _ _).alloc (Nat.le_refl _) _), Row.new _ _ _, (BX.out.below hB).alloc _, below_alloc (show Below w.heap.size w w' from (by repeat (first | (with_reducible exact Below.refl _ _) | (with_reducible refine Below.drew ?_) | (with_reducible refine below_drw ?_ _) | (with_reducible refine below_alloc ?_ _) | (with_reducible refine below_set ?_ (by simp <;> omega) _) | (refine below_of (by assumption) ?_)))) _⟩; refine (arm_two _ l0.two 0).mono ?_; rintro e w2 ⟨rfl, hT, ⟨G, hF⟩, hb⟩; rw [s_arm] at hT; have l1 := l0.step hT hF hb; have x0 := l1.c0; have x1 := l1.c1; have x2 := l1.c2; have lx := l1.lx; have L1 := Lib.hid l1; clear hB hc hf hz l0 l1 hT hF hb) | (go_at_call 94; refine (flush_two _ L1.out.two HS.out true 0).mono ?_; rintro e w3 ⟨rfl, hT, ⟨G, hF⟩, hb⟩; rw [FLU.out] at hT ⊢; have l2 := L1.out.step (show Two w3 w.heap.size pp q sP2 (sD gg) from (upd_self (sD gg) true) ▸ hT) hF hb; have x0 := l2.c0; have x1 := l2.c1; have x2 := l2.c2; have lx := l2.lx; have L2 := Lib.hid l2; clear l2 hT hF hb L1) | (go_at_call 95; refine (off_two _ L2.out.two).mono ?_; rintro e w4 ⟨rfl, rfl⟩) | (go_at_call 96; refine (restart_two _ L2.out.two HS.out true 0).mono ?_; rintro e w5 ⟨rfl, hT, ⟨G, hF⟩, hb⟩; rw [RES.out] at hT ⊢; have l3 := L2.out.step (show Two w5 w.heap.size pp q sP2 (sD3 gg) from hT) hF hb; have x0 := l3.c0; have x1 := l3.c1; have x2 := l3.c2; have lx := l3.lx; have L3 := Lib.hid l3; clear l3 hT hF hb L2) | (go_at_call 97; refine (on_two _ L3.out.two).mono ?_; rintro e w6 ⟨rfl, hT, ⟨G, hF⟩, hb⟩; rw [s_on] at hT; have l4 := L3.out.step hT hF hb; have x0 := l4.c0; have x1 := l4.c1; have x2 := l4.c2; have lx := l4.lx; have y7 := l4.box.cell (i := 7) rfl; have lc := l4.box.lt; have L4 := Lib.hid l4; clear l4 hT hF hb L3) | (go_at_call 98; refine (only14_any w.heap.size A2 la c2 _ L4.out.bel.size (H2.out.below L4.out.bel) (by omega)).mono ?_; rintro e w7 ⟨v3, rfl, hrow, hb3⟩; obtain ⟨A4, c4, rfl, hA⟩ := ActsAt.of hrow L4.out.bel.size; have HA := Lib.hid hA; have L5 := Lib.hid (L4.out.below hb3); clear hrow hb3 hA x0 x1 x2 lx y7 lc))
    go_loopw [6] (fun i wr => ∃ j : Nat, j ≤ (only la).length ∧ i = .int .i64 j ∧ Lw w w'.heap.size (caseCells r b t s o (.slice none 0 0) (.slice none 0 0) (.slice A2 la.length c2)) pp q sP3 (sD3 gg) wr ∧ ActsAt wr w.heap.size A4 (only la) j) (fun i _ => (only la).length - (intOf i).toNat)
    case atStart => exact ⟨0, Nat.zero_le _, rfl, L5.out, HA.out⟩
    case round =>
      obtain ⟨j, hj, rfl, hL, hA⟩ := hrel
      by_cases hjn : j < (only la).length
      · have ho : (only la)[j]? = some (only la)[j] := List.getElem?_eq_getElem hjn
        have hmem : (only la)[j] ∈ only la := List.getElem_mem hjn
        generalize (only la)[j] = a at *
        obtain ⟨g, A', c', rfl, hgB, hgT, hgx, hgl, hk0, hfz, hcap, hby, hHA⟩ := acts_first hA ho hL.par hL.bel.size
        have hA1 := hA.store rfl hL.bel.size
        have hL1 := hL.act hgT hgB (j * 6) (.int .u8 0)
        have hb1 := hby.below ((Below.refl w.heap.size wr).setCell (p := ⟨g, j * 6, none⟩) hgB (.int .u8 0))
        have hg1 := hgT.setCell ⟨g, j * 6, none⟩ (.int .u8 0)
        have dr := (Below.refl (wr.setCell ⟨g, j * 6, none⟩ (.int .u8 0)).heap.size (wr.setCell ⟨g, j * 6, none⟩ (.int .u8 0))).drew
        have LD := Lib.hid (hL1.below dr)
        have AD := Lib.hid (hA1.below hL1.bel.size dr)
        have BD := Lib.hid (hb1.below (dr.mono hL1.bel.size))
        have HD := Lib.hid hHA.drew
        have GD := Lib.hid (show HasT (wr.setCell ⟨g, j * 6, none⟩ (.int .u8 0)).drew g 113 from hg1)
        have Hm := Lib.hid hmem
        clear hA hL hA1 hL1 hb1 hg1 dr hby hHA hgT ho hmem
        go_wp2_with fail
        go_region_held3 (fun W_ => W_.cell? ⟨w'.heap.size, 0, none⟩ = some (.pointer (at0 pp)) ∧ W_.cell? ⟨w'.heap.size, 1, none⟩ = some (.pointer (at0 (q false))) ∧ W_.cell? ⟨w'.heap.size, 2, none⟩ = some (.pointer (at0 (q true))) ∧ W_.cell? ⟨g, j * 6, none⟩ = some (.int .u8 0) ∧ W_.cell? ⟨g, j * 6 + 1, none⟩ = some (.int .u8 (a.kind.toNat : Int)) ∧ W_.cell? ⟨g, j * 6 + 2, none⟩ = some (.int .u64 a.key) ∧ W_.cell? ⟨g, j * 6 + 3, none⟩ = some (.int .i64 a.at_) ∧ W_.cell? ⟨g, j * 6 + 4, none⟩ = some (.slice A' a.bs.length c') ∧ W_.cell? ⟨g, j * 6 + 5, none⟩ = some (.bool a.force)) (first | exact HD.out | exact HS5.out) (first | (go_at_call 99; refine (do_first _ a A' c' ⟨13, sD3 gg false, sP3⟩ (sD3 gg) (HX.out a Hm.out) (upd_self _ _) LD.out.two HS3.out BD.out hcap (HL.out a Hm.out)).mono ?_; rintro e w8 ⟨sx, rfl, hT5, ⟨G5, hF5⟩, hb5⟩; have HS5 := Lib.hid (HD.out.frG hF5 LD.out.par.hasT GD.out (by decide)); have A5 := Lib.hid (AD.out.frG hF5 hb5 (by decide)); have L8 := Lib.hid (LD.out.step hT5 hF5 hb5); clear hT5 hF5 hb5))
        all_goals (try go_wp2)
        all_goals go_roundw
        case rel => exact ⟨j + 1, by omega, by go_num, L8.out, A5.out⟩
        case measure => simp [intOf]; omega
      · have y1 := hL.c1
        have y2 := hL.c2
        have lx := hL.lx
        have L9 := Lib.hid hL
        clear hA hL
        go_wp2_with (first | (go_at_call 100; refine (acquire_two _ L9.out.two false 1).mono ?_; rintro e w8 ⟨rfl, hT, ⟨G, hF⟩, hb⟩; rw [ACQ.out] at hT ⊢; have l10 := L9.out.step (show Two w8 w.heap.size pp q sP3 (sD3 gg) from (upd_self (sD3 gg) false) ▸ hT) hF hb; have x1 := l10.c1; have x2 := l10.c2; have lx := l10.lx; have L10 := Lib.hid l10; clear l10 hT hF hb) | (go_at_call 96; refine (restart_two _ L10.out.two HS3.out false 0).mono ?_; rintro e w9 ⟨rfl, hT, ⟨G, hF⟩, hb⟩; rw [AGN.out] at hT ⊢; have l11 := L10.out.step (show Two w9 w.heap.size pp q sP3 (sD3 gg) from (upd_self (sD3 gg) false) ▸ hT) hF hb; have x1 := l11.c1; have x2 := l11.c2; have lx := l11.lx; have L11 := Lib.hid l11; clear l11 hT hF hb) | (go_at_call 94; refine (flush_two _ L11.out.two HS3.out true 0).mono ?_; rintro e w10 ⟨rfl, hT, ⟨G, hF⟩, hb⟩; rw [LST.out]; have l12 := L11.out.step hT hF hb; have x1 := l12.c1; have lx := l12.lx; have L12 := Lib.hid l12; obtain ⟨G9, hd9, _⟩ := hT.disk false; have D9 := Lib.hid hd9; clear l12 hT hF hb hd9) | (go_at_call 87; refine (dops_any _ D9.out).mono ?_; rintro e w11 ⟨rfl, rfl⟩; rw [CNT.out]))
        all_goals go_ret
        all_goals exact ⟨rfl, L12.out.bel⟩
end Go.Proofs.Ytmloiifnadaaoaa
