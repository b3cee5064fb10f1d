/- Helpers of the laws on acts; the law DiskFences. -/
import Derived.Test.YtmloiifnadaaoaaActR
import Derived.Test.YtmloiifnadaaoaaLawW
import Derived.Test.YtmloiifnadaaoaaDskL1
namespace Go.Proofs.Ytmloiifnadaaoaa
open Go.RowKit
set_option linter.unusedVariables false
set_option linter.unusedSimpArgs false

theorem fair14_at {w0 : World} {r b t s o : Int} {A0 : Option Addr} {l0 : List Flt} {c0 : Nat} {A1 : Option Addr} {l1 : List Flt} {c1 : Nat} {A2 : Option Addr} {la : List Act} {c2 : Nat} {w : World} (hb : Below w0.heap.size w0 w) (h0 : FltsRd w0 A0 l0) (h1 : FltsRd w0 A1 l1) (h2 : ActsB w0 w0.heap.size A2 la) (hl0 : l0.length * 24 ≤ 140737488351232) (hl1 : l1.length * 24 ≤ 140737488351232) (hla : la.length ≤ 140737488351232) :
    Calls Try.prog 91 #[.agg (caseCells r b t s o (.slice A0 l0.length c0) (.slice A1 l1.length c1) (.slice A2 la.length c2))] w fun e w' => e = .returned (.bool (fair14 (Geo.mk r b t s o) l0 l1 la)) ∧ Below w.heap.size w w' :=
  fair14_any w0.heap.size r b t s o A0 l0 c0 A1 l1 c1 A2 la c2 w hb.size (h0.below hb) (h1.below hb) (h2.below hb) hl0 hl1 hla
theorem Two.lower {w : World} {B B' pp : Nat} {q : Bool → Nat} {P : Pow} {D : Bool → Dsk} (h : Two w B pp q P D) (hB : B' ≤ B) : Two w B' pp q P D := by
  obtain ⟨F, h⟩ := h
  exact ⟨F, h.pow, h.dsk, fun i k hk => Nat.le_trans hB (h.le i k hk), Nat.le_trans hB h.lp, h.np, h.apart⟩
theorem RTwo.lower {w : World} {B B' pp : Nat} {q : Bool → Nat} {P : Pow} {D : Bool → Dsk} (h : RTwo w B pp q P D) (hB : B' ≤ B) : RTwo w B' pp q P D := by
  obtain ⟨F, h⟩ := h
  exact ⟨F, h.pow, h.dsk, fun i k hk => Nat.le_trans hB (h.le i k hk), Nat.le_trans hB h.lp, h.np, h.apart⟩
theorem Two.disk {w : World} {B pp : Nat} {q : Bool → Nat} {P : Pow} {D : Bool → Dsk} (h : Two w B pp q P D) (i : Bool) : ∃ G, IsDisk w G (q i) pp (D i) ∧ IsPow w (· = pp) pp P := by
  obtain ⟨F, h⟩ := h
  exact ⟨F i, h.dsk i, h.pow⟩
theorem RTwo.disk {w : World} {B pp : Nat} {q : Bool → Nat} {P : Pow} {D : Bool → Dsk} (h : RTwo w B pp q P D) (i : Bool) : ∃ G, IsRDisk w G (q i) pp (D i) ∧ IsRPow w (· = pp) pp P := by
  obtain ⟨F, h⟩ := h
  exact ⟨F i, h.dsk i, h.pow⟩
theorem upd_self {α : Type} (f : Bool → α) (i : Bool) : upd f i (f i) = f := by
  funext j
  by_cases e : j = i
  · subst e; exact upd_same _ _ _
  · exact upd_other _ e _
theorem small_new (g : Geo) (l0 l1 : List Flt) (h0 : l0.length ≤ 1000000) (h1 : l1.length ≤ 1000000) : Small (newSt g l0 l1) := by
  constructor <;> intro i <;> cases i <;> simp [newSt, Dsk.new] <;> omega

/-- What one operation on a disk of the pair leaves. -/
def OneTwo (B pp : Nat) (q : Bool → Nat) (D : Bool → Dsk) (i : Bool) (o : Out) (w : World) (e : Ending) (w' : World) : Prop :=
  e = .returned (.int .i64 o.e) ∧ Two w' B pp q o.p (upd D i o.d) ∧ (∃ G : Nat → Prop, FrG G diskTs w w') ∧ Below B w w'
section
variable {B pp : Nat} {q : Bool → Nat} {P : Pow} {D : Bool → Dsk}
theorem one_two {f : Fn} {n : Nat} {args : Array Value} {w : World} (h : Two w B pp q P D) (i : Bool) (o : Out) (hc : ∀ F, TwoAt w B pp q F P D → Calls Try.prog n args w (OutIs (At F i pp w.heap.size) (q i) pp o w)) : Calls Try.prog n args w (OneTwo B pp q D i o w) := by
  obtain ⟨F, T⟩ := h
  refine (hc F T).mono ?_
  rintro e w' ⟨rfl, hD, hP, hF⟩
  exact ⟨rfl, T.step hD hP hF, ⟨_, hF⟩, T.bel hF⟩
theorem acquire_two (w : World) (h : Two w B pp q P D) (i : Bool) (key : Int) : Calls Try.prog 100 #[.pointer (some ⟨q i, 0, none⟩), .int .u64 key] w (OneTwo B pp q D i ((D i).acqO P key) w) :=
  one_two (f := .func 0) h i _ (fun F T => dacquire2_any key w (T.one i) (T.pone i))
theorem flush_two (w : World) (h : Two w B pp q P D) (hs : Small D) (i : Bool) (key : Int) : Calls Try.prog 94 #[.pointer (some ⟨q i, 0, none⟩), .int .u64 key] w (OneTwo B pp q D i ((D i).flushO P key) w) :=
  one_two (f := .func 0) h i _ (fun F T => dflush_any key w (T.one i) (T.pone i) (TwoAt.new i) (hs.fl i) (Nat.le_trans (hs.ln i) (by decide)))
theorem restart_two (w : World) (h : Two w B pp q P D) (hs : Small D) (i : Bool) (k : Int) : Calls Try.prog 96 #[.pointer (some ⟨q i, 0, none⟩), .int .i64 k] w (OneTwo B pp q D i ((D i).restartO P k) w) :=
  one_two (f := .func 0) h i _ (fun F T => drestart_any k w (T.one i) (T.pone i) (TwoAt.new i) (Nat.le_trans (hs.ln i) (by decide)))
/-- An act on the first disk. -/
def FirstIs (B pp : Nat) (q : Bool → Nat) (D' : Bool → Dsk) (o : Out) (w : World) (e : Ending) (w' : World) : Prop :=
  ∃ s, e = .returned (.tuple #[.string s, .int .i64 o.e]) ∧ Two w' B pp q o.p D' ∧ (∃ G : Nat → Prop, FrG G diskTs w w') ∧ Below B w w'
theorem do_first (w : World) (a : Act) (A' : Option Addr) (c' : Nat) (o : Out) (D' : Bool → Dsk) (ho : (D false).actO P a.first = o) (hD' : upd D false o.d = D') (h : Two w B pp q P D) (hs : Small D) (hb : BytesB w B A' a.bs) (hcap : a.bs.length ≤ c') (h63 : a.bs.length ≤ 140737488351232) :
    Calls Try.prog 99 #[.agg #[.pointer (some ⟨pp, 0, none⟩), .pointer (some ⟨q false, 0, none⟩), .pointer (some ⟨q true, 0, none⟩)], .agg #[.int .u8 0, .int .u8 (a.kind.toNat : Int), .int .u64 a.key, .int .i64 a.at_, .slice A' a.bs.length c', .bool a.force]] w (FirstIs B pp q D' o w) := by
  refine (do_two B pp q P D a.first A' c' w h hs hb hcap h63).mono ?_
  rintro e w' ⟨rfl, hT, hF, hb2⟩
  rw [Act.side_first] at hT ⊢
  rw [ho] at hT ⊢
  rw [hD'] at hT
  exact ⟨_, rfl, hT, hF, hb2⟩
end
theorem acq_new (g : Geo) (l0 l1 : List Flt) (key : Int) : (newSt g l0 l1 false).acqO Pow.new key = ⟨0, { newSt g l0 l1 false with key := key }, Pow.new⟩ := rfl
/-- A disk with another key. -/
theorem Dsk.actO_fence {D : Dsk} {a : Act} (ha : a.op = true) (hk : a.key = 0) (hD : D.key ≠ 0) (hs : D.state Pow.new = 0) : D.actO Pow.new a = ⟨17, D, Pow.new⟩ := by
  have hb : D.begin_ Pow.new a.key = ⟨Pow.new, D, 17, ⟨0, 0, 0⟩⟩ := Dsk.begin_key hs rfl (by rw [hk]; exact fun e => hD e.symm)
  rw [Dsk.actO_stop ha (by rw [hb]; show (17 : Int) ≠ 0; decide), hb]

set_option maxHeartbeats 8000000 in
set_option maxRecDepth 1000000 in
theorem law_DiskFences (r b t s o : Int) (A0 : Option Addr) (l0 : List Flt) (c0 : Nat) (A1 : Option Addr) (l1 : List Flt) (c1 : Nat) (A2 : Option Addr) (la : List Act) (c2 : Nat) (key : Int) (w : World) (h0 : FltsRd w A0 l0) (hl0 : l0.length * 24 ≤ 140737488351232) (h1 : FltsRd w A1 l1) (hl1 : l1.length * 24 ≤ 140737488351232) (h2 : ActsB w w.heap.size A2 la) (hla : la.length ≤ 140737488351232) :
    Calls Try.prog 25 #[.agg (caseCells r b t s o (.slice A0 l0.length c0) (.slice A1 l1.length c1) (.slice A2 la.length c2)), .int .u64 key] w fun e w' => e = .returned (.bool true) ∧ Below w.heap.size w w' := by
  have H0 := Lib.hid h0
  have H1 := Lib.hid h1
  have H2 := Lib.hid h2
  clear h0 h1 h2
  cases hfa : fair14 (Geo.mk r b t s o) l0 l1 la with
  | false =>
    go_enter Try.func25, Try.ntmps25
    go_wp2_with (first | (go_at_call 81; refine (awake14_any _).mono ?_; rintro e w' ⟨rfl, hb⟩; (first | ((first | have hB1 := below_of hb hB | have hB1 := below_of hb (Below.drew hB) | have hB1 := below_of hb (below_drw hB _)); clear hB hb hc hf hz; have hB := hB1; clear hB1; obtain ⟨hc, hf, hz⟩ := bcell hB) | ((first | have hB1 := below_of hb (below_alloc hB _) | have hB1 := below_of hb (below_alloc (below_alloc hB _) _) | have hB1 := below_of hb (below_alloc (below_alloc (below_alloc hB _) _) _) | have hB1 := below_of hb (below_alloc (below_alloc (below_alloc (below_alloc hB _) _) _) _) | have hB1 := below_of hb (below_alloc (below_alloc (below_alloc (below_alloc (below_alloc hB _) _) _) _) _) | have hB1 := below_of hb (Below.drew (below_alloc hB _)) | have hB1 := below_of hb (Below.drew (below_alloc (below_alloc hB _) _)) | have hB1 := below_of hb (Below.drew (below_alloc (below_alloc (below_alloc hB _) _) _)) | have hB1 := below_of hb (Below.drew (below_alloc (below_alloc (below_alloc (below_alloc hB _) _) _) _)) | have hB1 := below_of hb (Below.drew (below_alloc (below_alloc (below_alloc (below_alloc (below_alloc hB _) _) _) _) _)) | have hB1 := below_of hb (below_drw (below_alloc hB _) _) | have hB1 := below_of hb (below_drw (below_alloc (below_alloc hB _) _) _) | have hB1 := below_of hb (below_drw (below_alloc (below_alloc (below_alloc hB _) _) _) _) | have hB1 := below_of hb (below_drw (below_alloc (below_alloc (below_alloc (below_alloc hB _) _) _) _) _) | have hB1 := below_of hb (below_drw (below_alloc (below_alloc (below_alloc (below_alloc (below_alloc hB _) _) _) _) _) _)); clear hB hc hf hz; have hB := hB1; clear hB1; obtain ⟨hc, hf, hz⟩ := bcell hB; obtain ⟨hc_, hf_, hz_⟩ := bcell hb; clear hb) | (have hB := hb; clear hb; obtain ⟨hc, hf, hz⟩ := bcell hB))) | (go_at_call 91; refine (fair14_at (w0 := w) (by repeat (first | (with_reducible exact Below.refl _ _) | (with_reducible refine Below.drew ?_) | (with_reducible refine below_drw ?_ _) | (with_reducible refine below_alloc ?_ _) | (with_reducible refine below_set ?_ (by simp <;> omega) _) | (refine below_of (by assumption) ?_))) H0.out H1.out H2.out hl0 hl1 hla).mono ?_; rintro e w' ⟨rfl, hb⟩; rw [hfa]; (first | ((first | have hB1 := below_of hb hB | have hB1 := below_of hb (Below.drew hB) | have hB1 := below_of hb (below_drw hB _)); clear hB hb hc hf hz; have hB := hB1; clear hB1; obtain ⟨hc, hf, hz⟩ := bcell hB) | ((first | have hB1 := below_of hb (below_alloc hB _) | have hB1 := below_of hb (below_alloc (below_alloc hB _) _) | have hB1 := below_of hb (below_alloc (below_alloc (below_alloc hB _) _) _) | have hB1 := below_of hb (below_alloc (below_alloc (below_alloc (below_alloc hB _) _) _) _) | have hB1 := below_of hb (below_alloc (below_alloc (below_alloc (below_alloc (below_alloc hB _) _) _) _) _) | have hB1 := below_of hb (Below.drew (below_alloc hB _)) | have hB1 := below_of hb (Below.drew (below_alloc (below_alloc hB _) _)) | have hB1 := below_of hb (Below.drew (below_alloc (below_alloc (below_alloc hB _) _) _)) | have hB1 := below_of hb (Below.drew (below_alloc (below_alloc (below_alloc (below_alloc hB _) _) _) _)) | have hB1 := below_of hb (Below.drew (below_alloc (below_alloc (below_alloc (below_alloc (below_alloc hB _) _) _) _) _)) | have hB1 := below_of hb (below_drw (below_alloc hB _) _) | have hB1 := below_of hb (below_drw (below_alloc (below_alloc hB _) _) _) | have hB1 := below_of hb (below_drw (below_alloc (below_alloc (below_alloc hB _) _) _) _) | have hB1 := below_of hb (below_drw (below_alloc (below_alloc (below_alloc (below_alloc hB _) _) _) _) _) | have hB1 := below_of hb (below_drw (below_alloc (below_alloc (below_alloc (below_alloc (below_alloc hB _) _) _) _) _) _)); clear hB hc hf hz; have hB := hB1; clear hB1; obtain ⟨hc, hf, hz⟩ := bcell hB; obtain ⟨hc_, hf_, hz_⟩ := bcell hb; clear hb) | (have hB := hb; clear hb; obtain ⟨hc, hf, hz⟩ := bcell hB))))
    all_goals go_ret
    all_goals exact ⟨rfl, (by repeat (first | (with_reducible exact Below.refl _ _) | (with_reducible refine Below.drew ?_) | (with_reducible refine below_drw ?_ _) | (with_reducible refine below_alloc ?_ _) | (with_reducible refine below_set ?_ (by simp <;> omega) _) | (refine below_of (by assumption) ?_)))⟩
  | true =>
    by_cases hkey : key = 0
    · subst hkey
      go_enter Try.func25, Try.ntmps25
      go_wp2_with (first | (go_at_call 81; refine (awake14_any _).mono ?_; rintro e w' ⟨rfl, hb⟩; (first | ((first | have hB1 := below_of hb hB | have hB1 := below_of hb (Below.drew hB) | have hB1 := below_of hb (below_drw hB _)); clear hB hb hc hf hz; have hB := hB1; clear hB1; obtain ⟨hc, hf, hz⟩ := bcell hB) | ((first | have hB1 := below_of hb (below_alloc hB _) | have hB1 := below_of hb (below_alloc (below_alloc hB _) _) | have hB1 := below_of hb (below_alloc (below_alloc (below_alloc hB _) _) _) | have hB1 := below_of hb (below_alloc (below_alloc (below_alloc (below_alloc hB _) _) _) _) | have hB1 := below_of hb (below_alloc (below_alloc (below_alloc (below_alloc (below_alloc hB _) _) _) _) _) | have hB1 := below_of hb (Below.drew (below_alloc hB _)) | have hB1 := below_of hb (Below.drew (below_alloc (below_alloc hB _) _)) | have hB1 := below_of hb (Below.drew (below_alloc (below_alloc (below_alloc hB _) _) _)) | have hB1 := below_of hb (Below.drew (below_alloc (below_alloc (below_alloc (below_alloc hB _) _) _) _)) | have hB1 := below_of hb (Below.drew (below_alloc (below_alloc (below_alloc (below_alloc (below_alloc hB _) _) _) _) _)) | have hB1 := below_of hb (below_drw (below_alloc hB _) _) | have hB1 := below_of hb (below_drw (below_alloc (below_alloc hB _) _) _) | have hB1 := below_of hb (below_drw (below_alloc (below_alloc (below_alloc hB _) _) _) _) | have hB1 := below_of hb (below_drw (below_alloc (below_alloc (below_alloc (below_alloc hB _) _) _) _) _) | have hB1 := below_of hb (below_drw (below_alloc (below_alloc (below_alloc (below_alloc (below_alloc hB _) _) _) _) _) _)); clear hB hc hf hz; have hB := hB1; clear hB1; obtain ⟨hc, hf, hz⟩ := bcell hB; obtain ⟨hc_, hf_, hz_⟩ := bcell hb; clear hb) | (have hB := hb; clear hb; obtain ⟨hc, hf, hz⟩ := bcell hB))) | (go_at_call 91; refine (fair14_at (w0 := w) (by repeat (first | (with_reducible exact Below.refl _ _) | (with_reducible refine Below.drew ?_) | (with_reducible refine below_drw ?_ _) | (with_reducible refine below_alloc ?_ _) | (with_reducible refine below_set ?_ (by simp <;> omega) _) | (refine below_of (by assumption) ?_))) H0.out H1.out H2.out hl0 hl1 hla).mono ?_; rintro e w' ⟨rfl, hb⟩; rw [hfa]; (first | ((first | have hB1 := below_of hb hB | have hB1 := below_of hb (Below.drew hB) | have hB1 := below_of hb (below_drw hB _)); clear hB hb hc hf hz; have hB := hB1; clear hB1; obtain ⟨hc, hf, hz⟩ := bcell hB) | ((first | have hB1 := below_of hb (below_alloc hB _) | have hB1 := below_of hb (below_alloc (below_alloc hB _) _) | have hB1 := below_of hb (below_alloc (below_alloc (below_alloc hB _) _) _) | have hB1 := below_of hb (below_alloc (below_alloc (below_alloc (below_alloc hB _) _) _) _) | have hB1 := below_of hb (below_alloc (below_alloc (below_alloc (below_alloc (below_alloc hB _) _) _) _) _) | have hB1 := below_of hb (Below.drew (below_alloc hB _)) | have hB1 := below_of hb (Below.drew (below_alloc (below_alloc hB _) _)) | have hB1 := below_of hb (Below.drew (below_alloc (below_alloc (below_alloc hB _) _) _)) | have hB1 := below_of hb (Below.drew (below_alloc (below_alloc (below_alloc (below_alloc hB _) _) _) _)) | have hB1 := below_of hb (Below.drew (below_alloc (below_alloc (below_alloc (below_alloc (below_alloc hB _) _) _) _) _)) | have hB1 := below_of hb (below_drw (below_alloc hB _) _) | have hB1 := below_of hb (below_drw (below_alloc (below_alloc hB _) _) _) | have hB1 := below_of hb (below_drw (below_alloc (below_alloc (below_alloc hB _) _) _) _) | have hB1 := below_of hb (below_drw (below_alloc (below_alloc (below_alloc (below_alloc hB _) _) _) _) _) | have hB1 := below_of hb (below_drw (below_alloc (below_alloc (below_alloc (below_alloc (below_alloc hB _) _) _) _) _) _)); clear hB hc hf hz; have hB := hB1; clear hB1; obtain ⟨hc, hf, hz⟩ := bcell hB; obtain ⟨hc_, hf_, hz_⟩ := bcell hb; clear hb) | (have hB := hb; clear hb; obtain ⟨hc, hf, hz⟩ := bcell hB))))
      all_goals go_ret
      all_goals exact ⟨rfl, (by repeat (first | (with_reducible exact Below.refl _ _) | (with_reducible refine Below.drew ?_) | (with_reducible refine below_drw ?_ _) | (with_reducible refine below_alloc ?_ _) | (with_reducible refine below_set ?_ (by simp <;> omega) _) | (refine below_of (by assumption) ?_)))⟩
    · obtain ⟨hv, _, hn60, hm0, hm1, h100, hf0, hf1⟩ := fair14_ok hfa
      have hkb : (key == 0) = false := by simpa using hkey
      have HK := Lib.hid hkey
      have HS := Lib.hid (small_new (Geo.mk r b t s o) l0 l1 (by omega) (by omega))
      have HF0 := Lib.hid hf0
      have HF1 := Lib.hid hf1
      have bx := Row.new w 102 (caseCells r b t s o (.slice A0 l0.length c0) (.slice A1 l1.length c1) (.slice A2 la.length c2))
      have BX := Lib.hid bx
      clear hkey hf0 hf1 bx
      go_enter Try.func25, Try.ntmps25
      go_wp2_with (first | (go_at_call 81; refine (awake14_any _).mono ?_; rintro e w' ⟨rfl, hb⟩; (first | ((first | have hB1 := below_of hb hB | have hB1 := below_of hb (Below.drew hB) | have hB1 := below_of hb (below_drw hB _)); clear hB hb hc hf hz; have hB := hB1; clear hB1; obtain ⟨hc, hf, hz⟩ := bcell hB) | ((first | have hB1 := below_of hb (below_alloc hB _) | have hB1 := below_of hb (below_alloc (below_alloc hB _) _) | have hB1 := below_of hb (below_alloc (below_alloc (below_alloc hB _) _) _) | have hB1 := below_of hb (below_alloc (below_alloc (below_alloc (below_alloc hB _) _) _) _) | have hB1 := below_of hb (below_alloc (below_alloc (below_alloc (below_alloc (below_alloc hB _) _) _) _) _) | have hB1 := below_of hb (Below.drew (below_alloc hB _)) | have hB1 := below_of hb (Below.drew (below_alloc (below_alloc hB _) _)) | have hB1 := below_of hb (Below.drew (below_alloc (below_alloc (below_alloc hB _) _) _)) | have hB1 := below_of hb (Below.drew (below_alloc (below_alloc (below_alloc (below_alloc hB _) _) _) _)) | have hB1 := below_of hb (Below.drew (below_alloc (below_alloc (below_alloc (below_alloc (below_alloc hB _) _) _) _) _)) | have hB1 := below_of hb (below_drw (below_alloc hB _) _) | have hB1 := below_of hb (below_drw (below_alloc (below_alloc hB _) _) _) | have hB1 := below_of hb (below_drw (below_alloc (below_alloc (below_alloc hB _) _) _) _) | have hB1 := below_of hb (below_drw (below_alloc (below_alloc (below_alloc (below_alloc hB _) _) _) _) _) | have hB1 := below_of hb (below_drw (below_alloc (below_alloc (below_alloc (below_alloc (below_alloc hB _) _) _) _) _) _)); clear hB hc hf hz; have hB := hB1; clear hB1; obtain ⟨hc, hf, hz⟩ := bcell hB; obtain ⟨hc_, hf_, hz_⟩ := bcell hb; clear hb) | (have hB := hb; clear hb; obtain ⟨hc, hf, hz⟩ := bcell hB))) | (go_at_call 91; refine (fair14_at (w0 := w) (by repeat (first | (with_reducible exact Below.refl _ _) | (with_reducible refine Below.drew ?_) | (with_reducible refine below_drw ?_ _) | (with_reducible refine below_alloc ?_ _) | (with_reducible refine below_set ?_ (by simp <;> omega) _) | (refine below_of (by assumption) ?_))) H0.out H1.out H2.out hl0 hl1 hla).mono ?_; rintro e w' ⟨rfl, hb⟩; rw [hfa]; (first | ((first | have hB1 := below_of hb hB | have hB1 := below_of hb (Below.drew hB) | have hB1 := below_of hb (below_drw hB _)); clear hB hb hc hf hz; have hB := hB1; clear hB1; obtain ⟨hc, hf, hz⟩ := bcell hB) | ((first | have hB1 := below_of hb (below_alloc hB _) | have hB1 := below_of hb (below_alloc (below_alloc hB _) _) | have hB1 := below_of hb (below_alloc (below_alloc (below_alloc hB _) _) _) | have hB1 := below_of hb (below_alloc (below_alloc (below_alloc (below_alloc hB _) _) _) _) | have hB1 := below_of hb (below_alloc (below_alloc (below_alloc (below_alloc (below_alloc hB _) _) _) _) _) | have hB1 := below_of hb (Below.drew (below_alloc hB _)) | have hB1 := below_of hb (Below.drew (below_alloc (below_alloc hB _) _)) | have hB1 := below_of hb (Below.drew (below_alloc (below_alloc (below_alloc hB _) _) _)) | have hB1 := below_of hb (Below.drew (below_alloc (below_alloc (below_alloc (below_alloc hB _) _) _) _)) | have hB1 := below_of hb (Below.drew (below_alloc (below_alloc (below_alloc (below_alloc (below_alloc hB _) _) _) _) _)) | have hB1 := below_of hb (below_drw (below_alloc hB _) _) | have hB1 := below_of hb (below_drw (below_alloc (below_alloc hB _) _) _) | have hB1 := below_of hb (below_drw (below_alloc (below_alloc (below_alloc hB _) _) _) _) | have hB1 := below_of hb (below_drw (below_alloc (below_alloc (below_alloc (below_alloc hB _) _) _) _) _) | have hB1 := below_of hb (below_drw (below_alloc (below_alloc (below_alloc (below_alloc (below_alloc hB _) _) _) _) _) _)); clear hB hc hf hz; have hB := hB1; clear hB1; obtain ⟨hc, hf, hz⟩ := bcell hB; obtain ⟨hc_, hf_, hz_⟩ := bcell hb; clear hb) | (have hB := hb; clear hb; obtain ⟨hc, hf, hz⟩ := bcell hB))) | (go_at_call 92; refine (start14_any r b t s o A0 l0 c0 A1 l1 c1 A2 la.length c2 _ hv HF0.out HF1.out (H0.out.below (by repeat (first | (with_reducible exact Below.refl _ _) | (with_reducible refine Below.drew ?_) | (with_reducible refine below_drw ?_ _) | (with_reducible refine below_alloc ?_ _) | (with_reducible refine below_set ?_ (by simp <;> omega) _) | (refine below_of (by assumption) ?_)))) (H1.out.below (by repeat (first | (with_reducible exact Below.refl _ _) | (with_reducible refine Below.drew ?_) | (with_reducible refine below_drw ?_ _) | (with_reducible refine below_alloc ?_ _) | (with_reducible refine below_set ?_ (by simp <;> omega) _) | (refine below_of (by assumption) ?_)))) hl0 hl1).mono ?_; rintro e w' ⟨pp, q, rfl, hT, hb⟩; have T := Lib.hid (hT.lower (B' := w.heap.size) (Below.size (B := w.heap.size) (by repeat (first | (with_reducible exact Below.refl _ _) | (with_reducible refine Below.drew ?_) | (with_reducible refine below_drw ?_ _) | (with_reducible refine below_alloc ?_ _) | (with_reducible refine below_set ?_ (by simp <;> omega) _) | (refine below_of (by assumption) ?_))))); clear hT; (first | ((first | have hB1 := below_of hb hB | have hB1 := below_of hb (Below.drew hB) | have hB1 := below_of hb (below_drw hB _)); clear hB hb hc hf hz; have hB := hB1; clear hB1; obtain ⟨hc, hf, hz⟩ := bcell hB) | ((first | have hB1 := below_of hb (below_alloc hB _) | have hB1 := below_of hb (below_alloc (below_alloc hB _) _) | have hB1 := below_of hb (below_alloc (below_alloc (below_alloc hB _) _) _) | have hB1 := below_of hb (below_alloc (below_alloc (below_alloc (below_alloc hB _) _) _) _) | have hB1 := below_of hb (below_alloc (below_alloc (below_alloc (below_alloc (below_alloc hB _) _) _) _) _) | have hB1 := below_of hb (Below.drew (below_alloc hB _)) | have hB1 := below_of hb (Below.drew (below_alloc (below_alloc hB _) _)) | have hB1 := below_of hb (Below.drew (below_alloc (below_alloc (below_alloc hB _) _) _)) | have hB1 := below_of hb (Below.drew (below_alloc (below_alloc (below_alloc (below_alloc hB _) _) _) _)) | have hB1 := below_of hb (Below.drew (below_alloc (below_alloc (below_alloc (below_alloc (below_alloc hB _) _) _) _) _)) | have hB1 := below_of hb (below_drw (below_alloc hB _) _) | have hB1 := below_of hb (below_drw (below_alloc (below_alloc hB _) _) _) | have hB1 := below_of hb (below_drw (below_alloc (below_alloc (below_alloc hB _) _) _) _) | have hB1 := below_of hb (below_drw (below_alloc (below_alloc (below_alloc (below_alloc hB _) _) _) _) _) | have hB1 := below_of hb (below_drw (below_alloc (below_alloc (below_alloc (below_alloc (below_alloc hB _) _) _) _) _) _)); clear hB hc hf hz; have hB := hB1; clear hB1; obtain ⟨hc, hf, hz⟩ := bcell hB; obtain ⟨hc_, hf_, hz_⟩ := bcell hb; clear hb) | (have hB := hb; clear hb; obtain ⟨hc, hf, hz⟩ := bcell hB))) | (go_at_call 100; refine (acquire_two _ (T.out.below ((Below.refl _ _).alloc (Nat.le_refl _) _)) false key).mono ?_; rintro e w2 ⟨rfl, hT2, ⟨G2, hF2⟩, hb2⟩; rw [acq_new] at hT2 ⊢; have X2 := Lib.hid ((Row.new w' 106 (pairCells (at0 pp) (at0 (q false)) (at0 (q true)))).fr hF2 ((avoid_TG (Us := [106]) (by decide)).not (Row.new w' 106 (pairCells (at0 pp) (at0 (q false)) (at0 (q true)))).hasT (by simp))); have hC := ((BX.out.below hB).alloc (.cells (pairCells (at0 pp) (at0 (q false)) (at0 (q true))) 106)); have hC2 := hC.fr hF2 ((avoid_TG (Us := [102]) (by decide)).not hC.hasT (by simp)); have y7 := hC2.cell (i := 7) rfl; have lc := hC2.lt; have E2 := Lib.hid ((below_alloc (show Below w.heap.size w w' from (by repeat (first | (with_reducible exact Below.refl _ _) | (with_reducible refine Below.drew ?_) | (with_reducible refine below_drw ?_ _) | (with_reducible refine below_alloc ?_ _) | (with_reducible refine below_set ?_ (by simp <;> omega) _) | (refine below_of (by assumption) ?_)))) _).trans hb2); have T2 := Lib.hid hT2; have T2' := T; clear hT2 hF2 hb2 hB hc hf hz hC hC2 T) | (go_at_call 98; refine (only14_any w.heap.size A2 la c2 _ E2.out.size (H2.out.below E2.out) (by omega)).mono ?_; rintro e w3 ⟨v3, rfl, hrow, hb3⟩; obtain ⟨A4, c4, rfl, hA⟩ := ActsAt.of hrow E2.out.size; have HA := Lib.hid hA; have E3 := Lib.hid (below_of hb3 E2.out); have T3 := Lib.hid (T2.out.below hb3); have X3 := Lib.hid (X2.out.below hb3); clear hrow hb3 hA))
      have hon : (only la).length ≤ 60 := Nat.le_trans (only_len la) hn60
      have HON := Lib.hid (fun a (ha : a ∈ only la) => only_op ha)
      obtain ⟨D2, hD2⟩ : ∃ D2, upd (newSt (Geo.mk r b t s o) l0 l1) false { newSt (Geo.mk r b t s o) l0 l1 false with key := key } = D2 := ⟨_, rfl⟩
      have hTT := T3.out
      simp only [hD2] at hTT
      have T4 := Lib.hid hTT
      have hS2 : Small D2 := by rw [← hD2]; exact HS.out.upd (HS.out.fl false) (HS.out.ln false)
      have hK2 : (D2 false).key ≠ 0 := by rw [← hD2, upd_same]; exact HK.out
      have hs2 : (D2 false).state Pow.new = 0 := by rw [← hD2, upd_same]; rfl
      have hc2 : (D2 false).count = 0 ∧ (D2 false).c.l.length = 0 ∧ (D2 false).s0 = 0 ∧ (D2 false).s1 = 0 ∧ (D2 false).s2 = 0 ∧ (D2 false).s3 = 0 := by rw [← hD2, upd_same]; exact ⟨rfl, rfl, rfl, rfl, rfl, rfl⟩
      have HX := Lib.hid (fun a (ha : a ∈ only la) => Dsk.actO_fence (D := D2 false) (a := a.first) (HON.out a ha).1 (HON.out a ha).2.1 hK2 hs2)
      have HL := Lib.hid (fun a (ha : a ∈ only la) => (by obtain ⟨b, hb, rfl⟩ := (HON.out a ha).2.2; exact Nat.le_trans (h100 b hb) (by decide) : a.bs.length ≤ 140737488351232))
      have HS2 := Lib.hid hS2
      have HC2 := Lib.hid hc2
      have hrm : ∃ nx, w'.heap.size = nx := ⟨_, rfl⟩
      clear hTT hD2 hS2 hK2 hs2 hc2 T2 T3 T2' X2 y7 E2 hrm
      go_loopw [8] (fun i wr => ∃ j : Nat, j ≤ (only la).length ∧ i = .int .i64 j ∧ Two wr w.heap.size pp q Pow.new D2 ∧ ActsAt wr w.heap.size A4 (only la) j ∧ Row 106 w'.heap.size (pairCells (at0 pp) (at0 (q false)) (at0 (q true))) wr ∧ Below w.heap.size w wr) (fun i _ => (only la).length - (intOf i).toNat)
      case atStart => exact ⟨0, Nat.zero_le _, rfl, T4.out, HA.out, X3.out, E3.out⟩
      case round =>
        obtain ⟨j, hj, rfl, hT, hA, hX, hE⟩ := hrel
        by_cases hjn : j < (only la).length
        · have ho : (only la)[j]? = some (only la)[j] := List.getElem?_eq_getElem hjn
          have hmem : (only la)[j] ∈ only la := List.getElem_mem hjn
          generalize (only la)[j] = a at *
          obtain ⟨g, A', c', rfl, hgB, hgT, hgx, hgl, hk0, hfz, hcap, hby, hHA⟩ := acts_first hA ho hX hE.size
          have hA1 := hA.store rfl hE.size
          have hX1 := hX.other hgx (j * 6) (.int .u8 0)
          have hE1 := below_set hE (p := ⟨g, j * 6, none⟩) hgB (.int .u8 0)
          have hT1 := hT.act hgT (j * 6) (.int .u8 0)
          have hb1 := hby.below ((Below.refl w.heap.size wr).setCell (p := ⟨g, j * 6, none⟩) hgB (.int .u8 0))
          have hg1 := hgT.setCell ⟨g, j * 6, none⟩ (.int .u8 0)
          have dr := (Below.refl (wr.setCell ⟨g, j * 6, none⟩ (.int .u8 0)).heap.size (wr.setCell ⟨g, j * 6, none⟩ (.int .u8 0))).drew
          have TD := Lib.hid (hT1.below dr)
          have AD := Lib.hid (hA1.below hE1.size dr)
          have XD := Lib.hid (hX1.below dr)
          have ED := Lib.hid hE1.drew
          have BD := Lib.hid (hb1.below (dr.mono hE1.size))
          have HD := Lib.hid hHA.drew
          have GD := Lib.hid (show HasT (wr.setCell ⟨g, j * 6, none⟩ (.int .u8 0)).drew g 113 from hg1)
          have Hm := Lib.hid hmem
          clear hA hX hE hT hA1 hX1 hE1 hT1 hb1 hg1 dr hby hHA hgT ho hmem
          go_wp2_with fail
          go_region_held3 (fun W_ => W_.cell? ⟨w'.heap.size, 0, none⟩ = some (.pointer (at0 pp)) ∧ W_.cell? ⟨w'.heap.size, 1, none⟩ = some (.pointer (at0 (q false))) ∧ W_.cell? ⟨w'.heap.size, 2, none⟩ = some (.pointer (at0 (q true))) ∧ W_.cell? ⟨g, j * 6, none⟩ = some (.int .u8 0) ∧ W_.cell? ⟨g, j * 6 + 1, none⟩ = some (.int .u8 (a.kind.toNat : Int)) ∧ W_.cell? ⟨g, j * 6 + 2, none⟩ = some (.int .u64 a.key) ∧ W_.cell? ⟨g, j * 6 + 3, none⟩ = some (.int .i64 a.at_) ∧ W_.cell? ⟨g, j * 6 + 4, none⟩ = some (.slice A' a.bs.length c') ∧ W_.cell? ⟨g, j * 6 + 5, none⟩ = some (.bool a.force)) (first | exact HD.out | exact HS5.out) (first | (go_at_call 99; refine (do_first _ a A' c' ⟨17, D2 false, Pow.new⟩ D2 (HX.out a Hm.out) (upd_self _ _) TD.out HS2.out BD.out hcap (HL.out a Hm.out)).mono ?_; rintro e w5 ⟨sx, rfl, hT5, ⟨G5, hF5⟩, hb5⟩; have HS5 := Lib.hid (HD.out.frG hF5 XD.out.hasT GD.out (by decide)); have A5 := Lib.hid (AD.out.frG hF5 hb5 (by decide)); have X5 := Lib.hid (XD.out.fr hF5 ((avoid_TG (Us := [106]) (by decide)).not XD.out.hasT (by simp))); have E5 := Lib.hid (ED.out.trans hb5); have T5 := Lib.hid hT5; clear hT5 hF5 hb5))
          all_goals (try go_wp2)
          all_goals go_roundw
          case rel => exact ⟨j + 1, by omega, by go_num, T5.out, A5.out, X5.out, E5.out⟩
          case measure => simp [intOf]; omega
        · have y1 := hX.cell (i := 1) rfl
          have lx := hX.lt
          obtain ⟨G9, hd9, _⟩ := hT.disk false
          have D9 := Lib.hid hd9
          have E9 := Lib.hid hE
          obtain ⟨e0, e1, e2, e3, e4, e5⟩ := HC2.out
          have N0 := Lib.hid e0
          have N1 := Lib.hid e1
          have N2 := Lib.hid e2
          have N3 := Lib.hid e3
          have N4 := Lib.hid e4
          have N5 := Lib.hid e5
          clear hA hX hE hT hd9 e0 e1 e2 e3 e4 e5
          go_wp2_with (first | (go_at_call 87; refine (dops_any _ D9.out).mono ?_; rintro e w6 ⟨rfl, rfl⟩; rw [N0.out]) | (go_at_call 88; refine (dpending_any _ D9.out).mono ?_; rintro e w6 ⟨rfl, rfl⟩; rw [N1.out]) | (go_at_call 90; refine (dstats_any _ D9.out).mono ?_; rintro e w6 ⟨rfl, hb6⟩; rw [N2.out, N3.out, N4.out, N5.out]; have E10 := Lib.hid (below_of hb6 E9.out); clear hb6))
          all_goals go_ret
          all_goals exact ⟨rfl, E10.out⟩
end Go.Proofs.Ytmloiifnadaaoaa
