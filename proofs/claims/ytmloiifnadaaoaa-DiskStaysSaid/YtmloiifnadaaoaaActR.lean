/- Acts on pairs of disks: what do and want leave; lists of acts in memory. -/
import Derived.Test.YtmloiifnadaaoaaActW
import Derived.Test.YtmloiifnadaaoaaLawW
namespace Go.Proofs.Ytmloiifnadaaoaa
open Go.RowKit
set_option linter.unusedVariables false
set_option linter.unusedSimpArgs false

/-- The numbers of operations and faults stay small. -/
structure Small (D : Bool → Dsk) : Prop where
  fl : ∀ i, (D i).fl.length ≤ 1000000
  ln : ∀ i, (D i).c.l.length ≤ 900000
def DoTwo (B pp : Nat) (q : Bool → Nat) (P : Pow) (D : Bool → Dsk) (a : Act) (w : World) (e : Ending) (w' : World) : Prop :=
  e = .returned (.tuple #[.string ⟨((D a.side).actB P a).toArray⟩, .int .i64 ((D a.side).actO P a).e]) ∧ Two w' B pp q ((D a.side).actO P a).p (upd D a.side ((D a.side).actO P a).d) ∧ (∃ G : Nat → Prop, FrG G diskTs w w') ∧ Below B w w'
theorem side_q (a : Act) (q : Bool → Nat) : (if a.side then q true else q false) = q a.side := by cases a.side <;> rfl
theorem do_two (B pp : Nat) (q : Bool → Nat) (P : Pow) (D : Bool → Dsk) (a : Act) (A' : Option Addr) (c' : Nat) (w : World) (h : Two w B pp q P D) (hs : Small D) (hb : BytesB w B A' a.bs) (hcap : a.bs.length ≤ c') (h63 : a.bs.length ≤ 140737488351232) :
    Calls Try.prog 99 #[.agg #[.pointer (some ⟨pp, 0, none⟩), .pointer (some ⟨q false, 0, none⟩), .pointer (some ⟨q true, 0, none⟩)], .agg #[.int .u8 (a.disk.toNat : Int), .int .u8 (a.kind.toNat : Int), .int .u64 a.key, .int .i64 a.at_, .slice A' a.bs.length c', .bool a.force]] w (DoTwo B pp q P D a w) := by
  obtain ⟨F, T⟩ := h
  refine (do14_any (G := At F a.side pp w.heap.size) (pd := q a.side) (D := D a.side) (P := P) a A' c' (q false) (q true) w (side_q a q) (T.one _) (T.pone _) (TwoAt.new _) (hs.fl _) (hs.ln _) (fun w' hF => (hb.below (T.bel hF)).rd) hcap h63).mono ?_
  rintro e w' ⟨rfl, hD, hP, hF⟩
  exact ⟨rfl, T.step hD hP hF, ⟨_, hF⟩, T.bel hF⟩
def WantTwo (B pp : Nat) (q : Bool → Nat) (P : Pow) (D : Bool → Dsk) (a : Act) (w : World) (e : Ending) (w' : World) : Prop :=
  e = .returned (.tuple #[.string ⟨((D a.side).actB P a).toArray⟩, .int .i64 ((D a.side).actO P a).e]) ∧ RTwo w' B pp q ((D a.side).actO P a).p (upd D a.side ((D a.side).actO P a).d) ∧ (∃ G : Nat → Prop, FrG G rdiskTs w w') ∧ Below B w w'
theorem want_two (B pp : Nat) (q : Bool → Nat) (P : Pow) (D : Bool → Dsk) (pv : Option Addr) (a : Act) (A' : Option Addr) (c' : Nat) (w : World) (hpv : a.op = true ∨ pv = some ⟨pp, 0, none⟩) (h : RTwo w B pp q P D) (hs : Small D) (hb : BytesB w B A' a.bs) (hcap : a.bs.length ≤ c') (h63 : a.bs.length ≤ 140737488351232) :
    Calls Try.prog 102 #[.pointer pv, .agg #[.pointer (some ⟨q false, 0, none⟩), .pointer (some ⟨q true, 0, none⟩)], .agg #[.int .u8 (a.disk.toNat : Int), .int .u8 (a.kind.toNat : Int), .int .u64 a.key, .int .i64 a.at_, .slice A' a.bs.length c', .bool a.force]] w (WantTwo B pp q P D a w) := by
  obtain ⟨F, T⟩ := h
  refine (want14_any (G := At F a.side pp w.heap.size) (pd := q a.side) (D := D a.side) (P := P) pv a hpv A' c' (q false) (q true) w (side_q a q) (T.one _) (T.pone _) (TwoAt.new _) (hs.fl _) (hs.ln _) (fun w' hF => (hb.below (T.bel hF)).rd) hcap h63).mono ?_
  rintro e w' ⟨rfl, hD, hP, hF⟩
  exact ⟨rfl, T.step hD hP hF, ⟨_, hF⟩, T.bel hF⟩
theorem Small.upd {D : Bool → Dsk} (h : Small D) {i : Bool} {d : Dsk} (h1 : d.fl.length ≤ 1000000) (h2 : d.c.l.length ≤ 900000) : Small (upd D i d) := by
  constructor <;> intro j <;> by_cases e : j = i
  · subst e; rw [upd_same]; exact h1
  · rw [upd_other _ e]; exact h.fl j
  · subst e; rw [upd_same]; exact h2
  · rw [upd_other _ e]; exact h.ln j

/-- Acts in a row of the call's own, from the j-th on. -/
def ActsAt (w : World) (B : Nat) (A : Option Addr) (l : List Act) (j : Nat) : Prop :=
  l = [] ∨ ∃ g xs, A = some ⟨g, 0, none⟩ ∧ B ≤ g ∧ Row 113 g xs w ∧ ∀ (i : Nat) (a : Act), j ≤ i → l[i]? = some a → ∃ A' c', (∀ k, k < 6 → xs[i * 6 + k]? = (actVals a A' c')[k]?) ∧ BytesB w B A' a.bs ∧ a.bs.length ≤ c'
theorem ActsAt.of {w : World} {B base : Nat} {v : Value} {l : List Act} (h : ActRow w B base v l) (hB : B ≤ base) : ∃ A c, v = .slice A l.length c ∧ ActsAt w B A l 0 := by
  obtain ⟨xs, hr, hx⟩ := h
  have hlen := hr.1
  rcases hr.2 with ⟨rfl, hn⟩ | ⟨g, cap, cur, rfl, hb, hg, hnc, _, hsz, ht⟩
  · exact ⟨none, 0, by rw [hn], .inl (List.eq_nil_of_length_eq_zero hn)⟩
  · refine ⟨_, _, rfl, .inr ⟨g, cur, rfl, by omega, hg, fun i a _ ha => ?_⟩⟩
    obtain ⟨A', c', h1, h2, h3⟩ := hx i a ha
    have hi := (List.getElem?_eq_some_iff.1 ha).1
    refine ⟨A', c', fun k hk => ?_, h2, h3⟩
    rw [← h1 k hk, ← ht, List.getElem?_take, if_pos (by omega), Array.getElem?_toList]
theorem ActsAt.frG {w w' : World} {B : Nat} {A : Option Addr} {l : List Act} {j : Nat} {G : Nat → Prop} {Ts : List TypeId} (h : ActsAt w B A l j) (hF : FrG G Ts w w') (hb : Below B w w') (hT : Ts.all (fun T => ![113].contains T) = true) : ActsAt w' B A l j := by
  refine h.imp id ?_
  rintro ⟨g, xs, h1, h2, h3, h4⟩
  refine ⟨g, xs, h1, h2, h3.fr hF ((avoid_TG hT).not h3.hasT (by simp)), fun i a hi ha => ?_⟩
  obtain ⟨A', c', k1, k2, k3⟩ := h4 i a hi ha
  exact ⟨A', c', k1, k2.below hb, k3⟩
theorem ActsAt.below {w w' : World} {B : Nat} {A : Option Addr} {l : List Act} {j : Nat} (h : ActsAt w B A l j) (hB : B ≤ w.heap.size) (hb : Below w.heap.size w w') : ActsAt w' B A l j :=
  h.frG (FrG.ofBelow (G := fun _ => False) (Ts := []) hb) (hb.mono hB) rfl
theorem ActsAt.get {w : World} {B : Nat} {A : Option Addr} {l : List Act} {j : Nat} (h : ActsAt w B A l j) {a : Act} (ha : l[j]? = some a) : ∃ g xs A' c', A = some ⟨g, 0, none⟩ ∧ B ≤ g ∧ Row 113 g xs w ∧ (∀ k, k < 6 → xs[j * 6 + k]? = (actVals a A' c')[k]?) ∧ BytesB w B A' a.bs ∧ a.bs.length ≤ c' := by
  rcases h with rfl | ⟨g, xs, h1, h2, h3, h4⟩
  · simp at ha
  · obtain ⟨A', c', k1, k2, k3⟩ := h4 j a (Nat.le_refl _) ha
    exact ⟨g, xs, A', c', h1, h2, h3, k1, k2, k3⟩
/-- The j-th act is made one of the first disk. -/
theorem ActsAt.store {w : World} {B : Nat} {A : Option Addr} {l : List Act} {j g : Nat} (h : ActsAt w B A l j) (hA : A = some ⟨g, 0, none⟩) (hBw : B ≤ w.heap.size) : ActsAt (w.setCell ⟨g, j * 6, none⟩ (.int .u8 0)) B A l (j + 1) := by
  refine h.imp id ?_
  rintro ⟨g', xs, h1, h2, h3, h4⟩
  rw [hA] at h1
  obtain rfl : g = g' := by injection h1 with h1; injection h1
  refine ⟨g, _, hA, h2, h3.set (j * 6) _, fun i a hi ha => ?_⟩
  obtain ⟨A', c', k1, k2, k3⟩ := h4 i a (by omega) ha
  exact ⟨A', c', fun k hk => by rw [Array.getElem?_setIfInBounds_ne (by omega)]; exact k1 k hk, k2.below ((Below.refl B w).setCell h2 _), k3⟩
/-- What a round reads: the pair's three cells, the act's six. -/
def HeldA (nx : Nat) (p0 p1 p2 : Value) (g k : Nat) (u0 u1 u2 u3 u4 u5 : Value) (W : World) : Prop :=
  W.cell? ⟨nx, 0, none⟩ = some p0 ∧ W.cell? ⟨nx, 1, none⟩ = some p1 ∧ W.cell? ⟨nx, 2, none⟩ = some p2 ∧ W.cell? ⟨g, k, none⟩ = some u0 ∧ W.cell? ⟨g, k + 1, none⟩ = some u1 ∧ W.cell? ⟨g, k + 2, none⟩ = some u2 ∧ W.cell? ⟨g, k + 3, none⟩ = some u3 ∧ W.cell? ⟨g, k + 4, none⟩ = some u4 ∧ W.cell? ⟨g, k + 5, none⟩ = some u5
theorem HeldA.keep {nx : Nat} {p0 p1 p2 : Value} {g k : Nat} {u0 u1 u2 u3 u4 u5 : Value} {W W' : World} {S : Nat → Prop} (h : HeldA nx p0 p1 p2 g k u0 u1 u2 u3 u4 u5 W) (hF : Fr S W W') (h1 : ¬ S nx) (h2 : ¬ S g) : HeldA nx p0 p1 p2 g k u0 u1 u2 u3 u4 u5 W' :=
  ⟨hF.cell h.1 h1, hF.cell h.2.1 h1, hF.cell h.2.2.1 h1, hF.cell h.2.2.2.1 h2, hF.cell h.2.2.2.2.1 h2, hF.cell h.2.2.2.2.2.1 h2, hF.cell h.2.2.2.2.2.2.1 h2, hF.cell h.2.2.2.2.2.2.2.1 h2, hF.cell h.2.2.2.2.2.2.2.2 h2⟩
theorem HeldA.drew {nx : Nat} {p0 p1 p2 : Value} {g k : Nat} {u0 u1 u2 u3 u4 u5 : Value} {W : World} (h : HeldA nx p0 p1 p2 g k u0 u1 u2 u3 u4 u5 W) : HeldA nx p0 p1 p2 g k u0 u1 u2 u3 u4 u5 W.drew := h.keep (Fr.ofBelow (Below.refl _ _).drew (fun _ => False)) id id
/-- What was read stands behind an act. -/
theorem HeldA.frG {nx : Nat} {p0 p1 p2 : Value} {g k : Nat} {u0 u1 u2 u3 u4 u5 : Value} {W W' : World} {G : Nat → Prop} {Ts : List TypeId} (h : HeldA nx p0 p1 p2 g k u0 u1 u2 u3 u4 u5 W) (hF : FrG G Ts W W') (hx : HasT W nx 106) (hg : HasT W g 113) (hT : Ts.all (fun T => ![106, 113].contains T) = true) : HeldA nx p0 p1 p2 g k u0 u1 u2 u3 u4 u5 W' :=
  h.keep hF ((avoid_TG hT).not hx (by simp)) ((avoid_TG hT).not hg (by simp))
/-- The j-th act, made one of the first disk: what a round then reads. -/
theorem acts_first {w : World} {B : Nat} {A : Option Addr} {l : List Act} {j nx : Nat} {a : Act} {p0 p1 p2 : Option Addr} (h : ActsAt w B A l j) (ha : l[j]? = some a) (hx : Row 106 nx (pairCells p0 p1 p2) w) (hBw : B ≤ w.heap.size) :
    ∃ g A' c', A = some ⟨g, 0, none⟩ ∧ B ≤ g ∧ HasT w g 113 ∧ ¬ g = nx ∧ g < w.heap.size ∧ w.cell? ⟨g, j * 6, none⟩ = some (.int .u8 (a.disk.toNat : Int)) ∧ w.frozen? ⟨g, j * 6, none⟩ = false ∧ a.bs.length ≤ c' ∧ BytesB w B A' a.bs ∧
      HeldA nx (.pointer p0) (.pointer p1) (.pointer p2) g (j * 6) (.int .u8 0) (.int .u8 (a.kind.toNat : Int)) (.int .u64 a.key) (.int .i64 a.at_) (.slice A' a.bs.length c') (.bool a.force) (w.setCell ⟨g, j * 6, none⟩ (.int .u8 0)) := by
  obtain ⟨g, xs, A', c', rfl, h2, h3, h4, h5, h6⟩ := h.get ha
  have hne : ¬ g = nx := fun e => (h3.hasT.ne hx.hasT (by decide)) e
  have hR := h3.set (j * 6) (.int .u8 0)
  have hX := hx.other (k := g) hne (j * 6) (.int .u8 0)
  have c0 := h4 0 (by omega)
  have c1 := h4 1 (by omega)
  have c2 := h4 2 (by omega)
  have c3 := h4 3 (by omega)
  have c4 := h4 4 (by omega)
  have c5 := h4 5 (by omega)
  have hlt : j * 6 < xs.size := (Array.getElem?_eq_some_iff.1 (show xs[j * 6]? = some _ from c0)).1
  refine ⟨g, A', c', rfl, h2, h3.hasT, hne, h3.lt, h3.cell c0, h3.fz _, h6, h5, hX.cell (i := 0) rfl, hX.cell (i := 1) rfl, hX.cell (i := 2) rfl, hR.cell ?_, hR.cell ?_, hR.cell ?_, hR.cell ?_, hR.cell ?_, hR.cell ?_⟩
  · rw [Array.getElem?_setIfInBounds_self, if_pos hlt]
  · rw [Array.getElem?_setIfInBounds_ne (by omega)]; exact c1
  · rw [Array.getElem?_setIfInBounds_ne (by omega)]; exact c2
  · rw [Array.getElem?_setIfInBounds_ne (by omega)]; exact c3
  · rw [Array.getElem?_setIfInBounds_ne (by omega)]; exact c4
  · rw [Array.getElem?_setIfInBounds_ne (by omega)]; exact c5
theorem Two.act {w : World} {B pp : Nat} {q : Bool → Nat} {P : Pow} {D : Bool → Dsk} (h : Two w B pp q P D) {g : Nat} (hg : HasT w g 113) (i : Nat) (v : Value) : Two (w.setCell ⟨g, i, none⟩ v) B pp q P D := h.keepA (fr_one w g i v) (avoid_one hg (by decide)) (avoid_one hg (by decide))
theorem RTwo.act {w : World} {B pp : Nat} {q : Bool → Nat} {P : Pow} {D : Bool → Dsk} (h : RTwo w B pp q P D) {g : Nat} (hg : HasT w g 113) (i : Nat) (v : Value) : RTwo (w.setCell ⟨g, i, none⟩ v) B pp q P D := h.keepA (fr_one w g i v) (avoid_one hg (by decide)) (avoid_one hg (by decide))
theorem Two.box {w : World} {B pp : Nat} {q : Bool → Nat} {P : Pow} {D : Bool → Dsk} (h : Two w B pp q P D) {g : Nat} (hg : HasT w g 106) (i : Nat) (v : Value) : Two (w.setCell ⟨g, i, none⟩ v) B pp q P D := h.keepA (fr_one w g i v) (avoid_one hg (by decide)) (avoid_one hg (by decide))
end Go.Proofs.Ytmloiifnadaaoaa
