/- The law DiskDurable. -/
import Derived.Test.YtmloiifnadaaoaaDskA
namespace Go.Proofs.Ytmloiifnadaaoaa
open Go.RowKit
set_option linter.unusedVariables false
set_option linter.unusedSimpArgs false

theorem upd_upd {α : Type} (f : Bool → α) (i : Bool) (x y : α) : upd (upd f i x) i y = upd f i y := by
  funext j
  by_cases e : j = i
  · subst e; rw [upd_same, upd_same]
  · rw [upd_other _ e, upd_other _ e, upd_other _ e]
/-- Before the power fails: the j-th operation comes next. -/
structure DurInv (g : Geo) (n : Int) (j : Nat) (P : Pow) (d : Dsk) : Prop where
  off : P.off = false
  fails : P.fails = 0
  armed : P.armed = true
  left : P.left = n - j
  le : (j : Int) ≤ n
  calm : d.Calm g
  len : d.c.l.length ≤ j
theorem dur_start (g : Geo) (n : Int) (hn : 0 ≤ n) : DurInv g n 0 (Pow.new.arm n) (newSt g [] [] false) := by
  refine ⟨rfl, rfl, ?_, ?_, by omega, Dsk.calm_new g, Nat.le_refl _⟩
  · show decide (0 ≤ n) = true
    simpa using hn
  · show n = n - ((0 : Nat) : Int)
    omega
theorem dur_step {g : Geo} {n : Int} {j : Nat} {P : Pow} {d : Dsk} {a : Act} (h : DurInv g n j P d) (hn : n ≤ 9223372036854775807) (ha : a.op = true) (hk : a.key = 0) :
    d.actO P a = ⟨13, d, sP2⟩ ∨ ∃ o, d.actO P a = o ∧ o.e ≠ 13 ∧ DurInv g n (j + 1) o.p o.d ∧ (d.actO Pow.new a).d = o.d ∧ (d.actO Pow.new a).p = Pow.new := by
  obtain ⟨h1, h2, h3, h4, h5, h6, h7⟩ := h
  have hl := Dsk.actO_fl d P a
  rcases h6.beside ha hk h1 h2 with ⟨c1, c2⟩ | ⟨c1, c2, c3, c4, c5⟩
  · refine .inl ?_
    have hc : P.call = sP2 := by
      rw [Pow.call_off h1, h3] at c1
      have h0 : P.left = 0 := by simpa using c1
      unfold Pow.call
      rw [if_pos h3, if_pos h0]
      obtain ⟨a1, a2, a3, a4⟩ := P
      simp only at h1 h2 h3 h0
      subst h1 h2 h3 h0
      show (⟨true, false, 0, inc 0⟩ : Pow) = ⟨true, false, 0, 1⟩
      rw [show inc 0 = 1 by decide +kernel]
    rw [c2, hc]
  · refine .inr ⟨_, rfl, c2, ?_, c4.symm, c5⟩
    have h0 : ¬ P.left = 0 := by
      intro h0
      rw [Pow.call_off h1, h3, h0] at c1
      cases c1
    have hc : P.call = { P with left := dec P.left } := by unfold Pow.call; rw [if_pos h3, if_neg h0]
    rw [c3, hc]
    have hd : dec P.left = n - ((j + 1 : Nat) : Int) := by
      rw [h4]
      unfold dec wrap64
      have : (0 : Int) < n - j := by omega
      omega
    exact ⟨h1, h2, h3, hd, by omega, h6.act ha, Nat.le_trans hl.2 (by omega)⟩
/-- Behind the power failure: the disk with what it kept. -/
structure DurBack (g : Geo) (c : Cch) (d : Dsk) : Prop where
  fl : d.fl = []
  key : d.key = 0
  dead : d.dead = false
  seen : d.seen = 1
  geo : d.g = g
  cch : d.c = c
theorem dur_back {g : Geo} {n : Int} {j : Nat} {P : Pow} {d : Dsk} (h : DurInv g n j P d) (keep : Int) : d.restartO sP2 keep = ⟨0, { d with c := d.c.cut keep, seen := 1 }, sP2⟩ ∧ DurBack g (d.c.cut keep) { d with c := d.c.cut keep, seen := 1 } := by
  have h6 := h.calm
  refine ⟨?_, ⟨h6.fl, h6.key, h6.dead, rfl, h6.geo, rfl⟩⟩
  unfold Dsk.restartO
  rw [if_neg (by rw [h6.dead]; decide), if_neg (by show ¬ (true = false); decide)]
  rfl
theorem dur_begin {g : Geo} {c : Cch} {d : Dsk} (h : DurBack g c d) : d.begin_ sP3 0 = ⟨sP3, { d with count := inc d.count }, 0, ⟨0, 0, 0⟩⟩ := by
  have hf : d.flt = ⟨0, 0, 0⟩ := by unfold Dsk.flt; rw [h.fl]; rfl
  rw [Dsk.begin_go (Dsk.state_ok h.dead rfl h.seen) rfl h.key.symm (by rw [hf]; decide) (by rw [hf]; decide), hf]
  rfl
/-- A read then gives what the cache holds. -/
theorem dur_read {g : Geo} {c : Cch} {d : Dsk} (h : DurBack g c d) {a : Int} (ha : d.has a = true) (hm : (c.d.ops c.l).has a = true) :
    (d.readO sP3 0 a).e = (c.d.ops c.l).readE a ∧ d.readBs sP3 0 a = (c.d.ops c.l).readB a ∧ (d.readO sP3 0 a).p = sP3 ∧ DurBack g c (d.readO sP3 0 a).d := by
  have hb := dur_begin h
  have hE : ({ d with count := inc d.count } : Dsk).readE ⟨0, 0, 0⟩ a = (c.d.ops c.l).readE a := by
    unfold Dsk.readE
    rw [if_neg (by show ¬ (d.has a = false); rw [ha]; decide), if_neg (by show ¬ ((0 : Int) = 4); decide)]
    have hm2 : ({ d with count := inc d.count } : Dsk).m = c.d.ops c.l := by unfold Dsk.m; rw [h.cch]
    rw [hm2]
    show (if (c.d.ops c.l).readE a = 0 then 0 else 15) = _
    have hx : (c.d.ops c.l).readE a = 15 ∨ (c.d.ops c.l).readE a = 0 := by
      unfold Med.readE
      rw [if_neg (by simp [hm])]
      split
      · exact .inl rfl
      · exact .inr rfl
    rcases hx with e | e <;> rw [e] <;> rfl
  have hB : ({ d with count := inc d.count } : Dsk).readB ⟨0, 0, 0⟩ a = (c.d.ops c.l).readB a := by
    unfold Dsk.readB
    rw [hE]
    have hm2 : ({ d with count := inc d.count } : Dsk).m = c.d.ops c.l := by unfold Dsk.m; rw [h.cch]
    rw [hm2]
    show (if (c.d.ops c.l).readE a = 0 then (c.d.ops c.l).readB a else []) = _
    unfold Med.readB
    split <;> rfl
  unfold Dsk.readO Dsk.readBs
  rw [hb, if_pos rfl, if_pos rfl]
  refine ⟨hE, hB, rfl, ?_⟩
  unfold Dsk.readD
  split <;> exact ⟨h.fl, h.key, h.dead, h.seen, h.geo, h.cch⟩
def ReadTwo (B pp : Nat) (q : Bool → Nat) (D : Bool → Dsk) (i : Bool) (o : Out) (bs : List UInt8) (w : World) (e : Ending) (w' : World) : Prop :=
  ∃ A c, e = .returned (.tuple #[.slice A bs.length c, .int .i64 o.e]) ∧ BytesT w' A bs ∧ Two w' B pp q o.p (upd D i o.d) ∧ (∃ G : Nat → Prop, FrG G diskTs w w') ∧ Below B w w'
section
variable {B pp : Nat} {q : Bool → Nat} {P : Pow} {D : Bool → Dsk}
theorem read_two (w : World) (h : Two w B pp q P D) (i : Bool) (hfl : (D i).fl.length ≤ 1000000) (key a : Int) : Calls Try.prog 104 #[.pointer (some ⟨q i, 0, none⟩), .int .u64 key, .int .i64 a] w (ReadTwo B pp q D i ((D i).readO P key a) ((D i).readBs P key a) w) := by
  obtain ⟨F, T⟩ := h
  refine (dread_any key a w (T.one i) (T.pone i) hfl).mono ?_
  rintro e w' ⟨A, c, rfl, hbt, hD, hP, hF⟩
  exact ⟨A, c, rfl, hbt, T.step hD hP hF, ⟨_, hF⟩, T.bel hF⟩
/-- The reference's cache of a disk is cut. -/
def RCutTwo (B rp : Nat) (rq : Bool → Nat) (P : Pow) (D : Bool → Dsk) (i : Bool) (keep : Int) (w : World) (e : Ending) (w' : World) : Prop :=
  e = .returned (.tuple #[]) ∧ RTwo w' B rp rq P (upd D i { D i with c := (D i).c.cut keep }) ∧ (∃ G : Nat → Prop, FrG G rdiskTs w w') ∧ Below B w w'
theorem rcut_two {rp : Nat} {rq : Bool → Nat} (w : World) (h : RTwo w B rp rq P D) (i : Bool) (hlen : (D i).c.l.length ≤ 1000000) (keep : Int) : ∃ pc, w.cell? ⟨rq i, 5, none⟩ = some (.pointer (some ⟨pc, 0, none⟩)) ∧ rq i < w.heap.size ∧ Calls Try.prog 103 #[.pointer (some ⟨pc, 0, none⟩), .int .i64 keep] w (RCutTwo B rp rq P D i keep w) := by
  obtain ⟨F, T⟩ := h
  obtain ⟨pc, A, c, h1⟩ := T.one i
  obtain ⟨k5, _, _, _, _, _, _, _, _, _, _, hl⟩ := h1.cells
  refine ⟨pc, k5, hl, (grcut_any _ pc (D i).c.d (D i).c.l keep w h1.cache hlen).mono ?_⟩
  rintro e w' ⟨rfl, hC, hF⟩
  obtain ⟨g1, g2⟩ := h1.cached hF (x := (D i).c.cut keep) hC (by show (Med.ops _ _).g = _; rw [Med.ops_g]; exact h1.geo)
  exact ⟨rfl, T.step ⟨pc, A, c, g1⟩ ((T.pone i).cached hF) g2, ⟨_, g2⟩, T.bel g2⟩
theorem rcache_two {rp : Nat} {rq : Bool → Nat} {w : World} (h : RTwo w B rp rq P D) (i : Bool) : ∃ pc, w.cell? ⟨rq i, 5, none⟩ = some (.pointer (some ⟨pc, 0, none⟩)) ∧ rq i < w.heap.size ∧ IsRCache w 0 pc (D i).c.d (D i).c.l := by
  obtain ⟨F, T⟩ := h
  obtain ⟨pc, A, c, h1⟩ := T.one i
  obtain ⟨k5, _, _, _, _, _, _, _, _, _, _, hl⟩ := h1.cells
  exact ⟨pc, k5, hl, h1.cache.toC⟩
def HeldV (ny : Nat) (p0 p1 : Value) (g k : Nat) (u0 u1 u2 u3 u4 u5 : Value) (W : World) : Prop :=
  W.cell? ⟨ny, 0, none⟩ = some p0 ∧ W.cell? ⟨ny, 1, none⟩ = some p1 ∧ W.cell? ⟨g, k, none⟩ = some u0 ∧ W.cell? ⟨g, k + 1, none⟩ = some u1 ∧ W.cell? ⟨g, k + 2, none⟩ = some u2 ∧ W.cell? ⟨g, k + 3, none⟩ = some u3 ∧ W.cell? ⟨g, k + 4, none⟩ = some u4 ∧ W.cell? ⟨g, k + 5, none⟩ = some u5
theorem HeldV.frG {ny : Nat} {p0 p1 : Value} {g k : Nat} {u0 u1 u2 u3 u4 u5 : Value} {W W' : World} {G : Nat → Prop} (h : HeldV ny p0 p1 g k u0 u1 u2 u3 u4 u5 W) (hF : FrG G rdiskTs W W') (hx : HasT W ny 118) (hg : HasT W g 113) : HeldV ny p0 p1 g k u0 u1 u2 u3 u4 u5 W' := by
  have h1 := (avoid_TG (G := G) (w := W) (Ts := rdiskTs) (Us := [118]) (by decide)).not hx (by simp)
  have h2 := (avoid_TG (G := G) (w := W) (Ts := rdiskTs) (Us := [113]) (by decide)).not hg (by simp)
  exact ⟨Fr.cell hF h.1 h1, Fr.cell hF h.2.1 h1, Fr.cell hF h.2.2.1 h2, Fr.cell hF h.2.2.2.1 h2, Fr.cell hF h.2.2.2.2.1 h2, Fr.cell hF h.2.2.2.2.2.1 h2, Fr.cell hF h.2.2.2.2.2.2.1 h2, Fr.cell hF h.2.2.2.2.2.2.2 h2⟩
/-- An act on the reference's first disk. -/
def WFirstIs (B rp : Nat) (rq : Bool → Nat) (P' : Pow) (D' : Bool → Dsk) (w : World) (e : Ending) (w' : World) : Prop :=
  ∃ s x, e = .returned (.tuple #[.string s, .int .i64 x]) ∧ RTwo w' B rp rq P' D' ∧ (∃ G : Nat → Prop, FrG G rdiskTs w w') ∧ Below B w w'
theorem want_first {rp : Nat} {rq : Bool → Nat} (w : World) (a : Act) (A' : Option Addr) (c' : Nat) (P' : Pow) (D' : Bool → Dsk) (hop : a.op = true) (hP' : ((D false).actO P a.first).p = P') (hD' : upd D false ((D false).actO P a.first).d = D') (h : RTwo w B rp rq P D) (hs : Small D) (hb : BytesB w B A' a.bs) (hcap : a.bs.length ≤ c') (h63 : a.bs.length ≤ 140737488351232) :
    Calls Try.prog 102 #[.pointer none, .agg #[.pointer (some ⟨rq false, 0, none⟩), .pointer (some ⟨rq true, 0, none⟩)], .agg #[.int .u8 0, .int .u8 (a.kind.toNat : Int), .int .u64 a.key, .int .i64 a.at_, .slice A' a.bs.length c', .bool a.force]] w (WFirstIs B rp rq P' D' w) := by
  refine (want_two B rp rq P D none a.first A' c' w (.inl hop) h hs hb hcap h63).mono ?_
  rintro e w' ⟨rfl, hT, hF, hb2⟩
  rw [Act.side_first] at hT ⊢
  rw [hP', hD'] at hT
  exact ⟨_, _, rfl, hT, hF, hb2⟩
/-- An address of the disk is one of its medium. -/
theorem has_two {w : World} (h : Two w B pp q P D) (i : Bool) (a : Int) : (D i).has a = (D i).m.has a := by
  obtain ⟨F, T⟩ := h
  obtain ⟨pc, A, c, h1⟩ := T.one i
  exact Dsk.has_m h1 a
end
set_option maxHeartbeats 16000000 in
set_option maxRecDepth 1000000 in
theorem law_DiskDurable (r b t s o : Int) (A0 : Option Addr) (l0 : List Flt) (c0 : Nat) (A1 : Option Addr) (l1 : List Flt) (c1 : Nat) (A2 : Option Addr) (la : List Act) (c2 : Nat) (n keep : Int) (w : World) (h0 : FltsRd w A0 l0) (hl0 : l0.length * 24 ≤ 140737488351232) (h1 : FltsRd w A1 l1) (hl1 : l1.length * 24 ≤ 140737488351232) (h2 : ActsB w w.heap.size A2 la) (hla : la.length ≤ 140737488351232) (hn63 : n ≤ 9223372036854775807) :
    Calls Try.prog 24 #[.agg (caseCells r b t s o (.slice A0 l0.length c0) (.slice A1 l1.length c1) (.slice A2 la.length c2)), .int .i64 n, .int .i64 keep] w fun e w' => e = .returned (.bool true) ∧ Below w.heap.size w w' := by
  have N0 := Lib.hid (show FltsRd w none [] from .inl rfl)
  have H2 := Lib.hid h2
  have z0 : ([] : List Flt).length * 24 ≤ 140737488351232 := by decide
  clear h0 h1 h2 hl0 hl1
  cases hfa : fair14 (Geo.mk r b t s o) [] [] la with
  | false =>
    go_enter Try.func24, Try.ntmps24
    go_wp2_with (first | (go_at_call 81; refine (awake14_any _).mono ?_; rintro e w' ⟨rfl, hb⟩; (first | ((first | have hB1 := below_of hb hB | have hB1 := below_of hb (Below.drew hB) | have hB1 := below_of hb (below_drw hB _)); clear hB hb hc hf hz; have hB := hB1; clear hB1; obtain ⟨hc, hf, hz⟩ := bcell hB) | ((first | have hB1 := below_of hb (below_alloc hB _) | have hB1 := below_of hb (below_alloc (below_alloc hB _) _) | have hB1 := below_of hb (below_alloc (below_alloc (below_alloc hB _) _) _) | have hB1 := below_of hb (below_alloc (below_alloc (below_alloc (below_alloc hB _) _) _) _) | have hB1 := below_of hb (below_alloc (below_alloc (below_alloc (below_alloc (below_alloc hB _) _) _) _) _) | have hB1 := below_of hb (Below.drew (below_alloc hB _)) | have hB1 := below_of hb (Below.drew (below_alloc (below_alloc hB _) _)) | have hB1 := below_of hb (Below.drew (below_alloc (below_alloc (below_alloc hB _) _) _)) | have hB1 := below_of hb (Below.drew (below_alloc (below_alloc (below_alloc (below_alloc hB _) _) _) _)) | have hB1 := below_of hb (Below.drew (below_alloc (below_alloc (below_alloc (below_alloc (below_alloc hB _) _) _) _) _)) | have hB1 := below_of hb (below_drw (below_alloc hB _) _) | have hB1 := below_of hb (below_drw (below_alloc (below_alloc hB _) _) _) | have hB1 := below_of hb (below_drw (below_alloc (below_alloc (below_alloc hB _) _) _) _) | have hB1 := below_of hb (below_drw (below_alloc (below_alloc (below_alloc (below_alloc hB _) _) _) _) _) | have hB1 := below_of hb (below_drw (below_alloc (below_alloc (below_alloc (below_alloc (below_alloc hB _) _) _) _) _) _)); clear hB hc hf hz; have hB := hB1; clear hB1; obtain ⟨hc, hf, hz⟩ := bcell hB; obtain ⟨hc_, hf_, hz_⟩ := bcell hb; clear hb) | (have hB := hb; clear hb; obtain ⟨hc, hf, hz⟩ := bcell hB))) | (go_at_call 91; refine (fair14_at (w0 := w) (l0 := []) (l1 := []) (by repeat (first | (with_reducible exact Below.refl _ _) | (with_reducible refine Below.drew ?_) | (with_reducible refine below_drw ?_ _) | (with_reducible refine below_alloc ?_ _) | (with_reducible refine below_set ?_ (by simp <;> omega) _) | (refine below_of (by assumption) ?_))) N0.out N0.out H2.out z0 z0 hla).mono ?_; rintro e w' ⟨rfl, hb⟩; rw [hfa]; (first | ((first | have hB1 := below_of hb hB | have hB1 := below_of hb (Below.drew hB) | have hB1 := below_of hb (below_drw hB _)); clear hB hb hc hf hz; have hB := hB1; clear hB1; obtain ⟨hc, hf, hz⟩ := bcell hB) | ((first | have hB1 := below_of hb (below_alloc hB _) | have hB1 := below_of hb (below_alloc (below_alloc hB _) _) | have hB1 := below_of hb (below_alloc (below_alloc (below_alloc hB _) _) _) | have hB1 := below_of hb (below_alloc (below_alloc (below_alloc (below_alloc hB _) _) _) _) | have hB1 := below_of hb (below_alloc (below_alloc (below_alloc (below_alloc (below_alloc hB _) _) _) _) _) | have hB1 := below_of hb (Below.drew (below_alloc hB _)) | have hB1 := below_of hb (Below.drew (below_alloc (below_alloc hB _) _)) | have hB1 := below_of hb (Below.drew (below_alloc (below_alloc (below_alloc hB _) _) _)) | have hB1 := below_of hb (Below.drew (below_alloc (below_alloc (below_alloc (below_alloc hB _) _) _) _)) | have hB1 := below_of hb (Below.drew (below_alloc (below_alloc (below_alloc (below_alloc (below_alloc hB _) _) _) _) _)) | have hB1 := below_of hb (below_drw (below_alloc hB _) _) | have hB1 := below_of hb (below_drw (below_alloc (below_alloc hB _) _) _) | have hB1 := below_of hb (below_drw (below_alloc (below_alloc (below_alloc hB _) _) _) _) | have hB1 := below_of hb (below_drw (below_alloc (below_alloc (below_alloc (below_alloc hB _) _) _) _) _) | have hB1 := below_of hb (below_drw (below_alloc (below_alloc (below_alloc (below_alloc (below_alloc hB _) _) _) _) _) _)); clear hB hc hf hz; have hB := hB1; clear hB1; obtain ⟨hc, hf, hz⟩ := bcell hB; obtain ⟨hc_, hf_, hz_⟩ := bcell hb; clear hb) | (have hB := hb; clear hb; obtain ⟨hc, hf, hz⟩ := bcell hB))))
    all_goals go_ret
    all_goals exact ⟨rfl, (by repeat (first | (with_reducible exact Below.refl _ _) | (with_reducible refine Below.drew ?_) | (with_reducible refine below_drw ?_ _) | (with_reducible refine below_alloc ?_ _) | (with_reducible refine below_set ?_ (by simp <;> omega) _) | (refine below_of (by assumption) ?_)))⟩
  | true =>
    by_cases hneg : n < 0
    · go_enter Try.func24, Try.ntmps24
      go_wp2_with (first | (go_at_call 81; refine (awake14_any _).mono ?_; rintro e w' ⟨rfl, hb⟩; (first | ((first | have hB1 := below_of hb hB | have hB1 := below_of hb (Below.drew hB) | have hB1 := below_of hb (below_drw hB _)); clear hB hb hc hf hz; have hB := hB1; clear hB1; obtain ⟨hc, hf, hz⟩ := bcell hB) | ((first | have hB1 := below_of hb (below_alloc hB _) | have hB1 := below_of hb (below_alloc (below_alloc hB _) _) | have hB1 := below_of hb (below_alloc (below_alloc (below_alloc hB _) _) _) | have hB1 := below_of hb (below_alloc (below_alloc (below_alloc (below_alloc hB _) _) _) _) | have hB1 := below_of hb (below_alloc (below_alloc (below_alloc (below_alloc (below_alloc hB _) _) _) _) _) | have hB1 := below_of hb (Below.drew (below_alloc hB _)) | have hB1 := below_of hb (Below.drew (below_alloc (below_alloc hB _) _)) | have hB1 := below_of hb (Below.drew (below_alloc (below_alloc (below_alloc hB _) _) _)) | have hB1 := below_of hb (Below.drew (below_alloc (below_alloc (below_alloc (below_alloc hB _) _) _) _)) | have hB1 := below_of hb (Below.drew (below_alloc (below_alloc (below_alloc (below_alloc (below_alloc hB _) _) _) _) _)) | have hB1 := below_of hb (below_drw (below_alloc hB _) _) | have hB1 := below_of hb (below_drw (below_alloc (below_alloc hB _) _) _) | have hB1 := below_of hb (below_drw (below_alloc (below_alloc (below_alloc hB _) _) _) _) | have hB1 := below_of hb (below_drw (below_alloc (below_alloc (below_alloc (below_alloc hB _) _) _) _) _) | have hB1 := below_of hb (below_drw (below_alloc (below_alloc (below_alloc (below_alloc (below_alloc hB _) _) _) _) _) _)); clear hB hc hf hz; have hB := hB1; clear hB1; obtain ⟨hc, hf, hz⟩ := bcell hB; obtain ⟨hc_, hf_, hz_⟩ := bcell hb; clear hb) | (have hB := hb; clear hb; obtain ⟨hc, hf, hz⟩ := bcell hB))) | (go_at_call 91; refine (fair14_at (w0 := w) (l0 := []) (l1 := []) (by repeat (first | (with_reducible exact Below.refl _ _) | (with_reducible refine Below.drew ?_) | (with_reducible refine below_drw ?_ _) | (with_reducible refine below_alloc ?_ _) | (with_reducible refine below_set ?_ (by simp <;> omega) _) | (refine below_of (by assumption) ?_))) N0.out N0.out H2.out z0 z0 hla).mono ?_; rintro e w' ⟨rfl, hb⟩; rw [hfa]; (first | ((first | have hB1 := below_of hb hB | have hB1 := below_of hb (Below.drew hB) | have hB1 := below_of hb (below_drw hB _)); clear hB hb hc hf hz; have hB := hB1; clear hB1; obtain ⟨hc, hf, hz⟩ := bcell hB) | ((first | have hB1 := below_of hb (below_alloc hB _) | have hB1 := below_of hb (below_alloc (below_alloc hB _) _) | have hB1 := below_of hb (below_alloc (below_alloc (below_alloc hB _) _) _) | have hB1 := below_of hb (below_alloc (below_alloc (below_alloc (below_alloc hB _) _) _) _) | have hB1 := below_of hb (below_alloc (below_alloc (below_alloc (below_alloc (below_alloc hB _) _) _) _) _) | have hB1 := below_of hb (Below.drew (below_alloc hB _)) | have hB1 := below_of hb (Below.drew (below_alloc (below_alloc hB _) _)) | have hB1 := below_of hb (Below.drew (below_alloc (below_alloc (below_alloc hB _) _) _)) | have hB1 := below_of hb (Below.drew (below_alloc (below_alloc (below_alloc (below_alloc hB _) _) _) _)) | have hB1 := below_of hb (Below.drew (below_alloc (below_alloc (below_alloc (below_alloc (below_alloc hB _) _) _) _) _)) | have hB1 := below_of hb (below_drw (below_alloc hB _) _) | have hB1 := below_of hb (below_drw (below_alloc (below_alloc hB _) _) _) | have hB1 := below_of hb (below_drw (below_alloc (below_alloc (below_alloc hB _) _) _) _) | have hB1 := below_of hb (below_drw (below_alloc (below_alloc (below_alloc (below_alloc hB _) _) _) _) _) | have hB1 := below_of hb (below_drw (below_alloc (below_alloc (below_alloc (below_alloc (below_alloc hB _) _) _) _) _) _)); clear hB hc hf hz; have hB := hB1; clear hB1; obtain ⟨hc, hf, hz⟩ := bcell hB; obtain ⟨hc_, hf_, hz_⟩ := bcell hb; clear hb) | (have hB := hb; clear hb; obtain ⟨hc, hf, hz⟩ := bcell hB))))
      all_goals go_ret
      all_goals exact ⟨rfl, (by repeat (first | (with_reducible exact Below.refl _ _) | (with_reducible refine Below.drew ?_) | (with_reducible refine below_drw ?_ _) | (with_reducible refine below_alloc ?_ _) | (with_reducible refine below_set ?_ (by simp <;> omega) _) | (refine below_of (by assumption) ?_)))⟩
    obtain ⟨hv, hsz120, hn60, _, _, h100, hf0, _⟩ := fair14_ok hfa
    have hn0 : 0 ≤ n := by omega
    have HF0 := Lib.hid hf0
    have bx := Row.new w 102 (caseCells r b t s o (.slice none 0 0) (.slice none 0 0) (.slice A2 la.length c2))
    have BX := Lib.hid bx
    have hon : (only la).length ≤ 60 := Nat.le_trans (only_len la) hn60
    have HON := Lib.hid (fun a (ha : a ∈ only la) => only_op ha)
    have HL := Lib.hid (fun a (ha : a ∈ only la) => (by obtain ⟨b, hb, rfl⟩ := (HON.out a ha).2.2; exact Nat.le_trans (h100 b hb) (by decide) : a.bs.length ≤ 140737488351232))
    obtain ⟨gg, hgg⟩ : ∃ gg, Geo.mk r b t s o = gg := ⟨_, rfl⟩
    have Hgg := Lib.hid hgg
    obtain ⟨D0, hD0⟩ : ∃ D0, newSt gg [] [] = D0 := ⟨_, rfl⟩
    have DS := Lib.hid (dur_start gg n hn0)
    have SM0 := Lib.hid (small_new gg [] [] (by decide) (by decide))
    have HD0 := Lib.hid hD0
    clear hf0 bx hgg hD0 h100 hsz120
    go_enter Try.func24, Try.ntmps24
    go_wp2_with (first | (go_at_call 81; refine (awake14_any _).mono ?_; rintro e w' ⟨rfl, hb⟩; (first | ((first | have hB1 := below_of hb hB | have hB1 := below_of hb (Below.drew hB) | have hB1 := below_of hb (below_drw hB _)); clear hB hb hc hf hz; have hB := hB1; clear hB1; obtain ⟨hc, hf, hz⟩ := bcell hB) | ((first | have hB1 := below_of hb (below_alloc hB _) | have hB1 := below_of hb (below_alloc (below_alloc hB _) _) | have hB1 := below_of hb (below_alloc (below_alloc (below_alloc hB _) _) _) | have hB1 := below_of hb (below_alloc (below_alloc (below_alloc (below_alloc hB _) _) _) _) | have hB1 := below_of hb (below_alloc (below_alloc (below_alloc (below_alloc (below_alloc hB _) _) _) _) _) | have hB1 := below_of hb (Below.drew (below_alloc hB _)) | have hB1 := below_of hb (Below.drew (below_alloc (below_alloc hB _) _)) | have hB1 := below_of hb (Below.drew (below_alloc (below_alloc (below_alloc hB _) _) _)) | have hB1 := below_of hb (Below.drew (below_alloc (below_alloc (below_alloc (below_alloc hB _) _) _) _)) | have hB1 := below_of hb (Below.drew (below_alloc (below_alloc (below_alloc (below_alloc (below_alloc hB _) _) _) _) _)) | have hB1 := below_of hb (below_drw (below_alloc hB _) _) | have hB1 := below_of hb (below_drw (below_alloc (below_alloc hB _) _) _) | have hB1 := below_of hb (below_drw (below_alloc (below_alloc (below_alloc hB _) _) _) _) | have hB1 := below_of hb (below_drw (below_alloc (below_alloc (below_alloc (below_alloc hB _) _) _) _) _) | have hB1 := below_of hb (below_drw (below_alloc (below_alloc (below_alloc (below_alloc (below_alloc hB _) _) _) _) _) _)); clear hB hc hf hz; have hB := hB1; clear hB1; obtain ⟨hc, hf, hz⟩ := bcell hB; obtain ⟨hc_, hf_, hz_⟩ := bcell hb; clear hb) | (have hB := hb; clear hb; obtain ⟨hc, hf, hz⟩ := bcell hB))) | (go_at_call 91; refine (fair14_at (w0 := w) (l0 := []) (l1 := []) (by repeat (first | (with_reducible exact Below.refl _ _) | (with_reducible refine Below.drew ?_) | (with_reducible refine below_drw ?_ _) | (with_reducible refine below_alloc ?_ _) | (with_reducible refine below_set ?_ (by simp <;> omega) _) | (refine below_of (by assumption) ?_))) N0.out N0.out H2.out z0 z0 hla).mono ?_; rintro e w' ⟨rfl, hb⟩; rw [hfa]; (first | ((first | have hB1 := below_of hb hB | have hB1 := below_of hb (Below.drew hB) | have hB1 := below_of hb (below_drw hB _)); clear hB hb hc hf hz; have hB := hB1; clear hB1; obtain ⟨hc, hf, hz⟩ := bcell hB) | ((first | have hB1 := below_of hb (below_alloc hB _) | have hB1 := below_of hb (below_alloc (below_alloc hB _) _) | have hB1 := below_of hb (below_alloc (below_alloc (below_alloc hB _) _) _) | have hB1 := below_of hb (below_alloc (below_alloc (below_alloc (below_alloc hB _) _) _) _) | have hB1 := below_of hb (below_alloc (below_alloc (below_alloc (below_alloc (below_alloc hB _) _) _) _) _) | have hB1 := below_of hb (Below.drew (below_alloc hB _)) | have hB1 := below_of hb (Below.drew (below_alloc (below_alloc hB _) _)) | have hB1 := below_of hb (Below.drew (below_alloc (below_alloc (below_alloc hB _) _) _)) | have hB1 := below_of hb (Below.drew (below_alloc (below_alloc (below_alloc (below_alloc hB _) _) _) _)) | have hB1 := below_of hb (Below.drew (below_alloc (below_alloc (below_alloc (below_alloc (below_alloc hB _) _) _) _) _)) | have hB1 := below_of hb (below_drw (below_alloc hB _) _) | have hB1 := below_of hb (below_drw (below_alloc (below_alloc hB _) _) _) | have hB1 := below_of hb (below_drw (below_alloc (below_alloc (below_alloc hB _) _) _) _) | have hB1 := below_of hb (below_drw (below_alloc (below_alloc (below_alloc (below_alloc hB _) _) _) _) _) | have hB1 := below_of hb (below_drw (below_alloc (below_alloc (below_alloc (below_alloc (below_alloc hB _) _) _) _) _) _)); clear hB hc hf hz; have hB := hB1; clear hB1; obtain ⟨hc, hf, hz⟩ := bcell hB; obtain ⟨hc_, hf_, hz_⟩ := bcell hb; clear hb) | (have hB := hb; clear hb; obtain ⟨hc, hf, hz⟩ := bcell hB))) | (go_at_call 92; refine (start14_any r b t s o none [] 0 none [] 0 A2 la.length c2 _ hv HF0.out HF0.out (.inl rfl) (.inl rfl) z0 z0).mono ?_; rintro e w' ⟨pp, q, rfl, hT, hb⟩; rw [Hgg.out, HD0.out] at hT; have T := Lib.hid (hT.lower (B' := w.heap.size) (Below.size (B := w.heap.size) (by repeat (first | (with_reducible exact Below.refl _ _) | (with_reducible refine Below.drew ?_) | (with_reducible refine below_drw ?_ _) | (with_reducible refine below_alloc ?_ _) | (with_reducible refine below_set ?_ (by simp <;> omega) _) | (refine below_of (by assumption) ?_))))); clear hT; (first | ((first | have hB1 := below_of hb hB | have hB1 := below_of hb (Below.drew hB) | have hB1 := below_of hb (below_drw hB _)); clear hB hb hc hf hz; have hB := hB1; clear hB1; obtain ⟨hc, hf, hz⟩ := bcell hB) | ((first | have hB1 := below_of hb (below_alloc hB _) | have hB1 := below_of hb (below_alloc (below_alloc hB _) _) | have hB1 := below_of hb (below_alloc (below_alloc (below_alloc hB _) _) _) | have hB1 := below_of hb (below_alloc (below_alloc (below_alloc (below_alloc hB _) _) _) _) | have hB1 := below_of hb (below_alloc (below_alloc (below_alloc (below_alloc (below_alloc hB _) _) _) _) _) | have hB1 := below_of hb (Below.drew (below_alloc hB _)) | have hB1 := below_of hb (Below.drew (below_alloc (below_alloc hB _) _)) | have hB1 := below_of hb (Below.drew (below_alloc (below_alloc (below_alloc hB _) _) _)) | have hB1 := below_of hb (Below.drew (below_alloc (below_alloc (below_alloc (below_alloc hB _) _) _) _)) | have hB1 := below_of hb (Below.drew (below_alloc (below_alloc (below_alloc (below_alloc (below_alloc hB _) _) _) _) _)) | have hB1 := below_of hb (below_drw (below_alloc hB _) _) | have hB1 := below_of hb (below_drw (below_alloc (below_alloc hB _) _) _) | have hB1 := below_of hb (below_drw (below_alloc (below_alloc (below_alloc hB _) _) _) _) | have hB1 := below_of hb (below_drw (below_alloc (below_alloc (below_alloc (below_alloc hB _) _) _) _) _) | have hB1 := below_of hb (below_drw (below_alloc (below_alloc (below_alloc (below_alloc (below_alloc hB _) _) _) _) _) _)); clear hB hc hf hz; have hB := hB1; clear hB1; obtain ⟨hc, hf, hz⟩ := bcell hB; obtain ⟨hc_, hf_, hz_⟩ := bcell hb; clear hb) | (have hB := hb; clear hb; obtain ⟨hc, hf, hz⟩ := bcell hB))) | (go_at_call 101; have l0x : Lw w w'.heap.size (caseCells r b t s o (.slice none 0 0) (.slice none 0 0) (.slice A2 la.length c2)) pp q Pow.new D0 (w'.alloc (.cells (pairCells (at0 pp) (at0 (q false)) (at0 (q true))) 106)) := ⟨T.out.below ((Below.refl _ _).alloc (Nat.le_refl _) _), Row.new _ _ _, (BX.out.below hB).alloc _, below_alloc (show Below w.heap.size w w' from (by repeat (first | (with_reducible exact Below.refl _ _) | (with_reducible refine Below.drew ?_) | (with_reducible refine below_drw ?_ _) | (with_reducible refine below_alloc ?_ _) | (with_reducible refine below_set ?_ (by simp <;> omega) _) | (refine below_of (by assumption) ?_)))) _⟩; refine (begin14_any r b t s o none [] 0 none [] 0 A2 la.length c2 _ hv HF0.out HF0.out (.inl rfl) (.inl rfl) z0 z0).mono ?_; rintro e w2 ⟨rp, rq, rfl, hR, hb⟩; rw [Hgg.out, HD0.out] at hR; have l1x := l0x.below hb; have bl := (Below.refl w2.heap.size w2).alloc (Nat.le_refl _) (.cells (duoCells (at0 (rq false)) (at0 (rq true))) 118); have L1 := Lib.hid (l1x.below bl); have R1 := Lib.hid (show Rw w w2.heap.size rp rq Pow.new D0 _ from ⟨(hR.lower (B' := w.heap.size) l0x.bel.size).below bl, Row.new _ _ _⟩); have x0 := l1x.c0; have lx := l1x.lx; clear hB hc hf hz l0x l1x hR hb bl) | (go_at_call 93; refine (arm_two _ L1.out.two n).mono ?_; rintro e w3 ⟨rfl, hT, ⟨G, hF⟩, hb⟩; have l3 := L1.out.step hT hF hb; have r3 := R1.out.other hF; have y7 := l3.box.cell (i := 7) rfl; have lc := l3.box.lt; have L3 := Lib.hid l3; have R3 := Lib.hid r3; clear l3 r3 hT hF hb) | (go_at_call 98; refine (only14_any w.heap.size A2 la c2 _ L3.out.bel.size (H2.out.below L3.out.bel) (by omega)).mono ?_; rintro e w5 ⟨v3, rfl, hrow, hb3⟩; obtain ⟨A4, c4, rfl, hA⟩ := ActsAt.of hrow L3.out.bel.size; have HA := Lib.hid hA; have L5 := Lib.hid (L3.out.below hb3); have R5 := Lib.hid (R3.out.below hb3); clear hrow hb3 hA y7 lc x0 lx))
    have h00 : upd D0 false (newSt gg [] [] false) = D0 := by rw [HD0.out]; exact upd_self _ _
    have L6 := Lib.hid (show Lw w w'.heap.size (caseCells r b t s o (.slice none 0 0) (.slice none 0 0) (.slice A2 la.length c2)) pp q (Pow.new.arm n) (upd D0 false (newSt gg [] [] false)) w5 from by rw [h00]; exact L5.out)
    have R6 := Lib.hid (show Rw w w2.heap.size rp rq Pow.new (upd D0 false (newSt gg [] [] false)) w5 from by rw [h00]; exact R5.out)
    have SMA := Lib.hid (fun (d : Dsk) (j : Nat) (h1 : d.fl = []) (h2 : d.c.l.length ≤ j) (hj : j ≤ 60) => (by have h9 := SM0.out; rw [HD0.out] at h9; exact h9.upd (by rw [h1]; decide) (by omega) : Small (upd D0 false d)))
    clear h00 L5 R5 L1 R1 T L3 R3
    go_loopw [12] (fun i wr => ∃ (j : Nat) (P : Pow) (d : Dsk), j ≤ (only la).length ∧ i = .int .i64 j ∧ DurInv gg n j P d ∧ Lw w w'.heap.size (caseCells r b t s o (.slice none 0 0) (.slice none 0 0) (.slice A2 la.length c2)) pp q P (upd D0 false d) wr ∧ Rw w w2.heap.size rp rq Pow.new (upd D0 false d) wr ∧ ActsAt wr w.heap.size A4 (only la) j) (fun i _ => (only la).length - (intOf i).toNat)
    case atStart => exact ⟨0, _, _, Nat.zero_le _, rfl, DS.out, L6.out, R6.out, HA.out⟩
    case round =>
      obtain ⟨j, P, d, hj, rfl, hI, hL, hR, hA⟩ := hrel
      by_cases hjn : j < (only la).length
      · have ho : (only la)[j]? = some (only la)[j] := List.getElem?_eq_getElem hjn
        have hmem : (only la)[j] ∈ only la := List.getElem_mem hjn
        generalize (only la)[j] = a at *
        obtain ⟨g, A', c', rfl, hgB, hgT, hgx, hgl, hk0, hfz, hcap, hby, hHA⟩ := acts_first hA ho hL.par hL.bel.size
        have hA1 := hA.store rfl hL.bel.size
        have hL1 := hL.act hgT hgB (j * 6) (.int .u8 0)
        have hR1 : Rw w w2.heap.size rp rq Pow.new (upd D0 false d) (wr.setCell ⟨g, j * 6, none⟩ (.int .u8 0)) := ⟨hR.two.act hgT _ _, hR.par.other (hgT.ne hR.par.hasT (by decide)) _ _⟩
        have hb1 := hby.below ((Below.refl w.heap.size wr).setCell (p := ⟨g, j * 6, none⟩) hgB (.int .u8 0))
        have hg1 := hgT.setCell ⟨g, j * 6, none⟩ (.int .u8 0)
        have dr := (Below.refl (wr.setCell ⟨g, j * 6, none⟩ (.int .u8 0)).heap.size (wr.setCell ⟨g, j * 6, none⟩ (.int .u8 0))).drew
        have LD := Lib.hid (hL1.below dr)
        have RD := Lib.hid (hR1.below dr)
        have AD := Lib.hid (hA1.below hL1.bel.size dr)
        have BD := Lib.hid (hb1.below (dr.mono hL1.bel.size))
        have HD := Lib.hid hHA.drew
        have GD := Lib.hid (show HasT (wr.setCell ⟨g, j * 6, none⟩ (.int .u8 0)).drew g 113 from hg1)
        have Hm := Lib.hid hmem
        have HI := Lib.hid hI
        have SMd := Lib.hid (SMA.out d j hI.calm.fl hI.len (by omega))
        have hstep := dur_step hI hn63 (a := a.first) (HON.out a hmem).1 (HON.out a hmem).2.1
        clear hA hL hR hA1 hL1 hR1 hb1 hg1 dr hby hHA hgT ho hmem hI
        rcases hstep with hstop | ⟨O, hO, hE, hI2, hd2, hp2⟩
        · have HST := Lib.hid hstop
          clear hstop
          go_wp2_with fail
          go_region_held3 (fun W_ => W_.cell? ⟨w'.heap.size, 0, none⟩ = some (.pointer (at0 pp)) ∧ W_.cell? ⟨w'.heap.size, 1, none⟩ = some (.pointer (at0 (q false))) ∧ W_.cell? ⟨w'.heap.size, 2, none⟩ = some (.pointer (at0 (q true))) ∧ W_.cell? ⟨g, j * 6, none⟩ = some (.int .u8 0) ∧ W_.cell? ⟨g, j * 6 + 1, none⟩ = some (.int .u8 (a.kind.toNat : Int)) ∧ W_.cell? ⟨g, j * 6 + 2, none⟩ = some (.int .u64 a.key) ∧ W_.cell? ⟨g, j * 6 + 3, none⟩ = some (.int .i64 a.at_) ∧ W_.cell? ⟨g, j * 6 + 4, none⟩ = some (.slice A' a.bs.length c') ∧ W_.cell? ⟨g, j * 6 + 5, none⟩ = some (.bool a.force)) (first | exact HD.out | exact HS5.out) (first | (go_at_call 99; refine (do_first _ a A' c' ⟨13, d, sP2⟩ (upd D0 false d) (by rw [upd_same]; exact HST.out) (upd_upd _ _ _ _) LD.out.two SMd.out BD.out hcap (HL.out a Hm.out)).mono ?_; rintro e w8 ⟨sx, rfl, hT5, ⟨G5, hF5⟩, hb5⟩; have HS5 := Lib.hid (HD.out.frG hF5 LD.out.par.hasT GD.out (by decide)); have l8 := LD.out.step hT5 hF5 hb5; have r8 := RD.out.other hF5; have L8 := Lib.hid l8; have R8 := Lib.hid r8; have x0 := l8.c0; have x1 := l8.c1; have lx8 := l8.lx; clear hT5 hF5 hb5 l8 r8))
          have hbk := dur_back HI.out keep
          obtain ⟨d1, hd1⟩ : ∃ d1, ({ d with c := d.c.cut keep, seen := 1 } : Dsk) = d1 := ⟨_, rfl⟩
          obtain ⟨d2, hd2⟩ : ∃ d2, ({ d with c := d.c.cut keep } : Dsk) = d2 := ⟨_, rfl⟩
          have hc2 : d2.c = d.c.cut keep := by rw [← hd2]
          rw [hd1] at hbk
          have HBK := Lib.hid hbk.1
          have HDB := Lib.hid hbk.2
          have HC2 := Lib.hid hc2
          have Hd2 := Lib.hid hd2
          have hlc : (upd D0 false d false).c.l.length ≤ 1000000 := by rw [upd_same]; have := HI.out.len; omega
          clear hbk hc2 hd1 hd2
          all_goals go_wp2_with (first | (go_at_call 95; refine (off_two _ L8.out.two).mono ?_; rintro e w9 ⟨rfl, rfl⟩) | (go_at_call 96; refine (restart_two _ L8.out.two SMd.out false keep).mono ?_; rintro e w9 ⟨rfl, hT, ⟨G, hF⟩, hb⟩; rw [upd_same, HBK.out] at hT ⊢; have l9 := L8.out.step (show Two w9 w.heap.size pp q sP2 (upd D0 false d1) from by rw [← upd_upd D0 false d d1]; exact hT) hF hb; have L9 := Lib.hid l9; have R9 := Lib.hid (R8.out.other hF); have x0 := l9.c0; have x1 := l9.c1; have lx9 := l9.lx; clear hT hF hb l9) | (go_at_call 97; refine (on_two _ L9.out.two).mono ?_; rintro e w10 ⟨rfl, hT, ⟨G, hF⟩, hb⟩; rw [s_on] at hT; have l10 := L9.out.step hT hF hb; have r10 := R9.out.other hF; have L10 := Lib.hid l10; have R10 := Lib.hid r10; obtain ⟨pc, k5, lq, hcut⟩ := rcut_two _ r10.two false hlc keep; have HCUT := Lib.hid hcut; have u0 := r10.par.cell (i := 0) rfl; have ly := r10.par.lt; clear hT hF hb l10 r10 hcut) | (go_at_call 103; refine HCUT.out.mono ?_; rintro e w11 ⟨rfl, hT, ⟨G, hF⟩, hb⟩; have L11 := Lib.hid (L10.out.other hF hb); have R11 := Lib.hid (R10.out.step (show RTwo w11 w.heap.size rp rq Pow.new (upd D0 false d2) from by rw [upd_same, upd_upd, Hd2.out] at hT; exact hT) hF); clear hT hF hb))
          obtain ⟨wq, hwq⟩ : ∃ x, x = wr := ⟨_, rfl⟩
          subst hwq
          obtain ⟨z, hz⟩ : ∃ z, (Geo.mk r b t s o).size = z := ⟨_, rfl⟩
          have hzb := Geo.size_bd (Geo.mk r b t s o)
          rw [hz] at hzb
          have HZ := Lib.hid hz
          have HZg := Lib.hid (show gg.size = z from by rw [← Hgg.out]; exact hz)
          clear hz k5 lq u0 ly x0 x1 lx8 lx9 hlc
          obtain ⟨zn, hzn⟩ : ∃ zn : Nat, z = (zn : Int) := ⟨z.toNat, by omega⟩
          subst hzn
          go_loopw [16] (fun i wr => ∃ (k : Nat) (dd : Dsk), k ≤ zn ∧ i = .int .i64 k ∧ DurBack gg (d.c.cut keep) dd ∧ Lw w w'.heap.size (caseCells r b t s o (.slice none 0 0) (.slice none 0 0) (.slice A2 la.length c2)) pp q sP3 (upd D0 false dd) wr ∧ Rw w w2.heap.size rp rq Pow.new (upd D0 false d2) wr) (fun i _ => zn - (intOf i).toNat)
          case atStart => exact ⟨0, d1, Nat.zero_le _, rfl, HDB.out, L11.out, R11.out⟩
          case round =>
            obtain ⟨k, dd, hk, rfl, hB, hL, hR⟩ := hrel
            have y0 := hL.box.cell (i := 0) rfl
            have y1 := hL.box.cell (i := 1) rfl
            have y2 := hL.box.cell (i := 2) rfl
            have y3 := hL.box.cell (i := 3) rfl
            have y4 := hL.box.cell (i := 4) rfl
            have lc := hL.box.lt
            have hbl := hB.fl
            have SMx := Lib.hid (show (upd D0 false dd false).fl.length ≤ 1000000 from by rw [upd_same, hbl]; decide)
            have LW := Lib.hid hL
            have RW := Lib.hid hR
            have HB := Lib.hid hB
            by_cases hkz : k < zn
            · have hha : dd.has (k : Int) = true := by unfold Dsk.has; rw [hB.geo, HZg.out]; simp; omega
              have hhm : ((d.c.cut keep).d.ops (d.c.cut keep).l).has (k : Int) = true := by
                have h9 := has_two hL.two false (k : Int)
                rw [upd_same] at h9
                rw [← h9.symm.trans hha]
                unfold Dsk.m
                rw [hB.cch]
              obtain ⟨q1, q2, q3, q4⟩ := dur_read hB hha hhm
              obtain ⟨pc9, k9, lq9, hcx⟩ := rcache_two hR.two false
              rw [upd_same, HC2.out] at hcx
              obtain ⟨M, hM⟩ : ∃ M, (d.c.cut keep).d.ops (d.c.cut keep).l = M := ⟨_, rfl⟩
              have hM' : (d2.c.d.ops d2.c.l) = M := by rw [HC2.out]; exact hM
              rw [hM] at q1 q2
              have Q1 := Lib.hid q1
              have Q2 := Lib.hid q2
              have Q3 := Lib.hid q3
              have Q4 := Lib.hid q4
              have HM := Lib.hid hM
              clear hB hL hR hbl hha hhm q1 q2 q3 q4 hcx hM hM' k9 lq9
              go_wp2_with (first | (go_at_call 32; refine (rsize_any r b t s o _).mono ?_; rintro e w12 ⟨rfl, hb⟩; rw [HZ.out]; have l12 := LW.out.below hb; have x1 := l12.c1; have lx := l12.lx; have L12 := Lib.hid l12; have R12 := Lib.hid (RW.out.below hb); clear hb l12) | (go_at_call 104; refine (read_two _ L12.out.two false SMx.out 0 (k : Int)).mono ?_; rintro e w13 ⟨A5, c5, rfl, hbt, hT, ⟨G, hF⟩, hb⟩; rw [upd_same, Q2.out] at hbt; rw [upd_same, Q1.out, Q2.out]; rw [upd_same, Q3.out, upd_upd] at hT; have l13 := L12.out.step hT hF hb; have r13 := R12.out.other hF; have L13 := Lib.hid l13; have R13 := Lib.hid r13; have Y13 := Lib.hid hbt; have u0 := r13.par.cell (i := 0) rfl; have ly := r13.par.lt; obtain ⟨pc, k5, lq, hcc⟩ := rcache_two r13.two false; rw [upd_same, HC2.out] at hcc; have HCX := Lib.hid hcc; clear hbt hT hF hb l13 r13 hcc) | (go_at_call 105; refine (rcread_any 0 pc _ _ (k : Int) _ HCX.out (by show (0 : Nat) ≤ 1000000; omega)).mono ?_; rintro e w14 ⟨A6, c6, rfl, hbt, hb⟩; rw [HM.out] at hbt ⊢; have t1 := toStr_of (Y13.out.rd.below hb) c5; have t2 := toStr_of hbt.rd c6; have L14 := Lib.hid (L13.out.below hb); have R14 := Lib.hid (R13.out.below hb); clear hbt hb))
              all_goals go_roundw
              case rel => exact ⟨k + 1, _, by omega, by go_num, Q4.out, L14.out, R14.out⟩
              case measure => simp [intOf]; omega
            · have hcl : dd.c.l.length = 0 := by rw [hB.cch]; rfl
              have HCL := Lib.hid hcl
              clear hB hL hR hbl hcl
              go_wp2_with (first | (go_at_call 32; refine (rsize_any r b t s o _).mono ?_; rintro e w12 ⟨rfl, hb⟩; rw [HZ.out]; have l12 := LW.out.below hb; have x1 := l12.c1; have lx := l12.lx; have L12 := Lib.hid l12; obtain ⟨G9, hd9, _⟩ := l12.two.disk false; rw [upd_same] at hd9; have D9 := Lib.hid hd9; clear hb l12 hd9) | (go_at_call 88; refine (dpending_any _ D9.out).mono ?_; rintro e w13 ⟨rfl, rfl⟩; rw [HCL.out]))
              all_goals go_ret
              all_goals exact ⟨rfl, L12.out.bel⟩
        · have hE2 : (O.e == 13) = false := by simpa using hE
          obtain ⟨Oe, Od, Op⟩ := O
          simp only at hE2 hI2 hd2 hp2
          have HO := Lib.hid hO
          have HI2 := Lib.hid hI2
          have HD2 := Lib.hid hd2
          have HP2 := Lib.hid hp2
          clear hO hE hI2 hd2 hp2
          go_wp2_with fail
          go_region_held3 (fun W_ => W_.cell? ⟨w'.heap.size, 0, none⟩ = some (.pointer (at0 pp)) ∧ W_.cell? ⟨w'.heap.size, 1, none⟩ = some (.pointer (at0 (q false))) ∧ W_.cell? ⟨w'.heap.size, 2, none⟩ = some (.pointer (at0 (q true))) ∧ W_.cell? ⟨g, j * 6, none⟩ = some (.int .u8 0) ∧ W_.cell? ⟨g, j * 6 + 1, none⟩ = some (.int .u8 (a.kind.toNat : Int)) ∧ W_.cell? ⟨g, j * 6 + 2, none⟩ = some (.int .u64 a.key) ∧ W_.cell? ⟨g, j * 6 + 3, none⟩ = some (.int .i64 a.at_) ∧ W_.cell? ⟨g, j * 6 + 4, none⟩ = some (.slice A' a.bs.length c') ∧ W_.cell? ⟨g, j * 6 + 5, none⟩ = some (.bool a.force)) (first | exact HD.out | exact HS5.out) (first | (go_at_call 99; refine (do_first _ a A' c' ⟨Oe, Od, Op⟩ (upd D0 false Od) (by rw [upd_same]; exact HO.out) (upd_upd _ _ _ _) LD.out.two SMd.out BD.out hcap (HL.out a Hm.out)).mono ?_; rintro e w8 ⟨sx, rfl, hT5, ⟨G5, hF5⟩, hb5⟩; have hs5 := HD.out.frG hF5 LD.out.par.hasT GD.out (by decide); have HS5 := Lib.hid hs5; have A5 := Lib.hid (AD.out.frG hF5 hb5 (by decide)); have L8 := Lib.hid (LD.out.step hT5 hF5 hb5); have R8 := Lib.hid (RD.out.other hF5); have G8 := Lib.hid (show HasT w8 g 113 from GD.out.keep hF5 ((avoid_TG (Us := [113]) (by decide)).not GD.out (by simp))); have B8 := Lib.hid (BD.out.below hb5); clear hT5 hF5 hb5 hs5))
          all_goals (try go_wp2)
          have r9 := R8.out.below (Below.refl _ _).drew
          have l9 := L8.out.below (Below.refl _ _).drew
          have hs9 := HS5.out.drew
          have HW9 := Lib.hid (show HeldV w2.heap.size _ _ g (j * 6) _ _ _ _ _ _ w8.drew from ⟨r9.par.cell (i := 0) rfl, r9.par.cell (i := 1) rfl, hs9.2.2.2⟩)
          have R9 := Lib.hid r9
          have L9 := Lib.hid l9
          have A9 := Lib.hid (A5.out.below L8.out.bel.size (Below.refl _ _).drew)
          have B9 := Lib.hid (B8.out.below (((Below.refl _ _).drew : Below w8.heap.size w8 w8.drew).mono L8.out.bel.size))
          have G9 := Lib.hid (show HasT w8.drew g 113 from G8.out)
          have ly := R8.out.par.lt
          have lg := G8.out.lt
          clear r9 l9 hs9
          go_region_held3 (fun W_ => W_.cell? ⟨w2.heap.size, 0, none⟩ = some (.pointer (at0 (rq false))) ∧ W_.cell? ⟨w2.heap.size, 1, none⟩ = some (.pointer (at0 (rq true))) ∧ W_.cell? ⟨g, j * 6, none⟩ = some (.int .u8 0) ∧ W_.cell? ⟨g, j * 6 + 1, none⟩ = some (.int .u8 (a.kind.toNat : Int)) ∧ W_.cell? ⟨g, j * 6 + 2, none⟩ = some (.int .u64 a.key) ∧ W_.cell? ⟨g, j * 6 + 3, none⟩ = some (.int .i64 a.at_) ∧ W_.cell? ⟨g, j * 6 + 4, none⟩ = some (.slice A' a.bs.length c') ∧ W_.cell? ⟨g, j * 6 + 5, none⟩ = some (.bool a.force)) (first | exact HW9.out | exact HW10.out) (first | (go_at_call 102; refine (want_first _ a A' c' Pow.new (upd D0 false Od) (HON.out a Hm.out).1 (by rw [upd_same]; exact HP2.out) (by rw [upd_same, HD2.out, upd_upd]) R9.out.two SMd.out B9.out hcap (HL.out a Hm.out)).mono ?_; rintro e w10 ⟨sy, xy, rfl, hT5, ⟨G5, hF5⟩, hb5⟩; have HW10 := Lib.hid (HW9.out.frG hF5 R9.out.par.hasT G9.out); have A10 := Lib.hid (A9.out.frG hF5 hb5 (by decide)); have L10 := Lib.hid (L9.out.other hF5 hb5); have R10 := Lib.hid (R9.out.step hT5 hF5); clear hT5 hF5 hb5))
          all_goals (try go_wp2)
          all_goals go_roundw
          case rel => exact ⟨j + 1, Op, Od, by omega, by go_num, HI2.out, L10.out, R10.out, A10.out⟩
          case measure => simp [intOf]; omega
      · have hle := hI.le
        have hoff := hI.off
        have y0 := hL.c0
        have lx := hL.lx
        have LW := Lib.hid hL
        have HOF := Lib.hid hoff
        have hjl : j = (only la).length := by omega
        subst hjl
        clear hI hL hR hA hoff
        go_wp2_with (first | (go_at_call 95; refine (off_two _ LW.out.two).mono ?_; rintro e w9 ⟨rfl, rfl⟩; rw [HOF.out]))
        all_goals go_ret
        all_goals exact ⟨rfl, LW.out.bel⟩
end Go.Proofs.Ytmloiifnadaaoaa
