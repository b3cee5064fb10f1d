/- The walks of package cache, the caches told apart by a predicate: do, Write, Erase. -/
import Derived.Test.YtmloiifnadaaoaaGreatDcH
import Derived.Test.YtmloiifnadaaoaaGreatCchW
import Derived.Maps.AppendAt
namespace Go.Proofs.YtmloiifnadaaoaaGreat
open Go.RowKit
set_option linter.unusedVariables false
set_option linter.unusedSimpArgs false

/-- What stands when the contents' sectors have turned. -/
theorem GacheAt.turned {w w1 : World} {G : Nat → Prop} {pc p1 q1 n1 p2 q2 n2 : Nat} {v : Value} {xs : List Value} {d : Med} {l : List Opn} (h : GacheAt w G pc p1 q1 n1 p2 q2 n2 v xs d l) (hF : Fr (· = q2) w w1) :
    w1.heap[pc]? = some (.cells #[.pointer (some ⟨p1, 0, none⟩), .pointer (some ⟨p2, 0, none⟩), v] 118 (0, 0)) ∧ IsMed w1 p1 q1 n1 d ∧ w1.ownsRow 0 120 1 v l.length xs ∧ Opers w1 xs l ∧ FrG G cacheTs w w1 := by
  have A1 : Avoid (· = q2) w [118, 126, 5, 120, 3, 53] := avoid_one h.con.hasQ (by decide)
  exact ⟨(hF.block pc h.hasC.lt (A1.not h.hasC (by simp))).trans h.head, h.dur.keep hF (A1.not h.dur.hasP (by simp)) h.ne (fun k hk => A1 k _ hk (by simp)), owns_frame' h.row hF (A1.sub (by simp)), h.ops.keepA hF (A1.sub (by simp)),
    FrG.ofOne hF h.con.hasQ (by decide) h.le.2.2⟩
theorem gache_bad {w w1 : World} {G : Nat → Prop} {pc p1 q1 n1 p2 q2 n2 : Nat} {v : Value} {xs : List Value} {d : Med} {l : List Opn} (h : GacheAt w G pc p1 q1 n1 p2 q2 n2 v xs d l) (hF : Fr (· = q2) w w1) {o : Opn} (hM : IsMed w1 p2 q2 n2 ((d.ops l).op o)) (hE : (d.ops l).opE o ≠ 0) :
    IsGache w1 G pc d (push d l o) ∧ FrG G cacheTs w w1 := by
  obtain ⟨h1, h2, h3, h4, h5⟩ := h.turned hF
  rw [push_bad hE]
  rw [Med.op_bad hE] at hM
  exact ⟨⟨p1, q1, n1, p2, q2, n2, v, xs, h1, h2, hM, h.ne, h3, h4, h.own, h.le, h.capt⟩, h5⟩
theorem gache_good {w w1 w2 : World} {G : Nat → Prop} {pc p1 q1 n1 p2 q2 n2 : Nat} {v v' ov : Value} {xs : List Value} {d : Med} {l : List Opn} (h : GacheAt w G pc p1 q1 n1 p2 q2 n2 v xs d l) (hF : Fr (· = q2) w w1) {o : Opn} (hM : IsMed w1 p2 q2 n2 ((d.ops l).op o)) (hE : (d.ops l).opE o = 0)
    (ho : OperIs w ov o) {ob : Obj} (hg : (w1.alloc ob).grownBy w2 v.ownBlock) (hown : w2.ownsRow 0 120 1 v' (l.length + 1) (xs ++ [ov])) (hat : ∀ k, v'.ownBlock = some k → G k) (hcap : CapIn G ov) :
    IsGache (w2.setCell ⟨pc, 2, none⟩ v') G pc d (push d l o) ∧ FrG G cacheTs w (w2.setCell ⟨pc, 2, none⟩ v') := by
  obtain ⟨h1, h2, h3, h4, h5⟩ := h.turned hF
  have ho1 := ho.turned h.con hF
  have hb : Below w1.heap.size w1 (w1.alloc ob) := (Below.refl _ _).alloc (Nat.le_refl _) _
  have hlt1 : pc < w1.heap.size := (Array.getElem?_eq_some_iff.1 h1).1
  have k1 : (w1.alloc ob).heap[pc]? = _ := (hb.block pc hlt1).trans h1
  have k2 := h2.below hb
  have k3 := owns_frame' h3 (Fr.ofBelow hb (fun _ => False)) avoid_none
  have k4 := h4.keepA (Fr.ofBelow hb (fun _ => False)) avoid_none
  have k5 := h5.call hb
  have kM := hM.below hb
  have kO := ho1.keepA (Fr.ofBelow hb (fun _ => False)) avoid_none
  have F2 : FrG G [120] (w1.alloc ob) w2 := FrG.grown (FrG.refl G _ _) hg (fun k hk => ⟨h.own k hk, _, by simp, (owns_own k3 k hk).2⟩)
  have A2 : Avoid (TG G [120] (w1.alloc ob)) (w1.alloc ob) [118, 126, 133, 5, 3, 53] := avoid_TG (by decide)
  have hC1 : HasT (w1.alloc ob) pc 118 := ⟨_, _, k1⟩
  have m1 : w2.heap[pc]? = _ := (Fr.block F2 pc hC1.lt (A2.not hC1 (by simp))).trans k1
  have m2 := k2.keepA F2 (A2.sub (by simp))
  have mM := kM.keepA F2 (A2.sub (by simp))
  have m4 := k4.keepA F2 (A2.sub (by simp))
  have mO := kO.keepA F2 (A2.sub (by simp))
  have hC2 : HasT w2 pc 118 := ⟨_, _, m1⟩
  have F3 : Fr (· = pc) w2 (w2.setCell ⟨pc, 2, none⟩ v') := Fr.setCell (S := fun k => k = pc) (p := ⟨pc, 2, none⟩) (Fr.refl _ w2) (.inl rfl) v'
  have A3 : Avoid (· = pc) w2 [126, 133, 5, 120, 3, 53] := avoid_one hC2 (by decide)
  have n1' := head_set m1 2 v'
  rw [push_ok hE]
  refine ⟨⟨p1, q1, n1, p2, q2, n2, v', xs ++ [ov], n1', m2.keepA F3 (A3.sub (by simp)), ?_, h.ne, ?_, ?_, hat, h.le, fun x hx => by
      rcases List.mem_append.1 hx with h1 | h1
      · exact h.capt x h1
      · simp at h1; subst h1; exact hcap⟩, ?_⟩
  · rw [Med.ops_snoc]; exact mM.keepA F3 (A3.sub (by simp))
  · rw [List.length_append]; exact owns_frame' hown F3 (A3.sub (by simp))
  · exact (m4.snoc h3.1 mO).keepA F3 (A3.sub (by simp))
  · exact (k5.trans (F2.mono (fun _ _ h => h) (by decide))).trans (FrG.ofOne F3 hC2 (by decide) h.le.1)

theorem gache_head2 {w w1 w2 : World} {G : Nat → Prop} {pc p1 q1 n1 p2 q2 n2 : Nat} {v : Value} {xs : List Value} {d : Med} {l : List Opn} (h : GacheAt w G pc p1 q1 n1 p2 q2 n2 v xs d l) (hF : Fr (· = q2) w w1) {ob : Obj} (hg : (w1.alloc ob).grownBy w2 v.ownBlock) :
    w2.cell? ⟨pc, 2, none⟩ = some v ∧ pc < w2.heap.size ∧ w2.frozen? ⟨pc, 2, none⟩ = false := by
  obtain ⟨h1, h2, h3, h4, h5⟩ := h.turned hF
  have hb : Below w1.heap.size w1 (w1.alloc ob) := (Below.refl _ _).alloc (Nat.le_refl _) _
  have hlt1 : pc < w1.heap.size := (Array.getElem?_eq_some_iff.1 h1).1
  have k1 : (w1.alloc ob).heap[pc]? = _ := (hb.block pc hlt1).trans h1
  have k3 := owns_frame' h3 (Fr.ofBelow hb (fun _ => False)) avoid_none
  have hC1 : HasT (w1.alloc ob) pc 118 := ⟨_, _, k1⟩
  have m1 : w2.heap[pc]? = _ := (hg.block pc hC1.lt (fun hk => (hC1.ne (owns_own k3 pc hk.symm).2 (by decide)) rfl)).trans k1
  exact ⟨by rw [cell_of_row _ pc _ _ _ _ m1]; rfl, (Array.getElem?_eq_some_iff.1 m1).1, by simp [World.frozen?, m1]⟩
/-- What do leaves: the error, the cache, what has turned. -/
def GdoIs (G : Nat → Prop) (pc : Nat) (d : Med) (l : List Opn) (o : Opn) (w : World) (e : Ending) (w' : World) : Prop :=
  e = .returned (.int .i64 ((d.ops l).opE o)) ∧ IsGache w' G pc d (push d l o) ∧ FrG G cacheTs w w'

set_option maxHeartbeats 4000000 in
set_option maxRecDepth 1000000 in
theorem gdo_any (G : Nat → Prop) (pc : Nat) (d : Med) (l : List Opn) (o : Opn) (ov : Value) (w : World) (h : IsGache w G pc d l) (ho : OperIs w ov o) (hG : ∀ k, w.heap.size ≤ k → G k) (hcap : CapIn G ov) (hlen : l.length ≤ 1000000) :
    Calls Tryz.prog 83 #[.pointer (some ⟨pc, 0, none⟩), ov] w (GdoIs G pc d l o w) := by
  have HG := Lib.hid hG
  clear hG
  obtain ⟨p1, q1, n1, p2, q2, n2, v, xs, h⟩ := h
  have c1 := h.c1
  have hpl := h.hasC.lt
  have hpq : pc ≠ q2 := h.hasC.ne h.con.hasQ (by decide)
  obtain ⟨A, c, hv, _, _⟩ := h.form
  subst hv
  have C := Lib.hid h
  have HOwn := Lib.hid (fun (w1 : World) (v' : Value) (h1 : w.heap.size ≤ w1.heap.size) (h2 : v'.ownBlock = (Value.slice A l.length c).ownBlock ∨ v'.ownBlock = some (w1.heap.size + 1)) (k : Nat) (hk : v'.ownBlock = some k) => show G k from by
    rcases h2 with h2 | h2
    · exact h.own k (by rw [← h2]; exact hk)
    · rw [h2] at hk; injection hk with hk; subst hk; exact HG.out _ (by omega))
  have M := Lib.hid h.con
  have HO := Lib.hid ho
  have hdone : ∀ w1 : World, Fr (· = q2) w w1 → w1.cell? ⟨pc, 2, none⟩ = some (.slice A l.length c) ∧ pc < w1.heap.size ∧ (∀ j, w1.frozen? ⟨pc, j, none⟩ = false) := fun w1 hF => by
    have t := (h.turned hF).1
    exact ⟨by rw [cell_of_row _ pc _ _ _ _ t]; rfl, (Array.getElem?_eq_some_iff.1 t).1, fun j => by simp [World.frozen?, t]⟩
  have Hd := Lib.hid hdone
  clear h hdone
  obtain ⟨i0, hinf, hz0, hz1, hz2⟩ := info_parts Tryz.info_opers
  rcases ho with ⟨he, b, rfl, hb0, cb⟩ | ⟨he, hl, a, b, A', c', rfl, ha0, hb0, ca, cb, hbt⟩
  · have eE : (d.ops l).opE o = (d.ops l).eraseE o.at_ := by unfold Med.opE; rw [he]; rfl
    have eM : (d.ops l).op o = (d.ops l).erase o.at_ := by unfold Med.op; rw [he]; rfl
    have EM := Lib.hid eM
    by_cases hE : (d.ops l).opE o = 0
    · have HE := Lib.hid hE
      have E0 := Lib.hid (eE.symm.trans hE)
      clear eE eM he hE hb0
      go_enter Tryz.func83, Tryz.ntmps83
      go_wp2_with (first | (go_at_call 87; refine (eclos_any p2 q2 n2 _ b o.at_ _ M.out cb).mono ?_; rintro e w1 ⟨rfl, hM, hF⟩; rw [E0.out]; rw [← EM.out] at hM; obtain ⟨d2, dlt, dfz⟩ := Hd.out _ hF; have HM := Lib.hid hM; have HF := Lib.hid hF; have dfz2 := dfz 2; have Row := Lib.hid (C.out.turned hF).2.2.1; have hN1 := hF.size; clear hM hF dfz) | (at_builtin; refine wpList_append_own_at _ rfl _ _ 116 rfl 0 120 i0 (.nilFunc) 1 8 Tryz.underlying116 hinf hz0 hz1 hz2 rfl (by decide) _ _ _ rfl (Row.out.alloc _) ⟨w1.heap.size, 0, none⟩ 1 1 [.func (.func 87) #[] #[.pointer (some ⟨b, 0, none⟩)]] rfl rfl (one_cell_new _ _ _) ?c2E ?c3E ?c4E ?c5E ?_))
      case c2E => intro u hu; simp at hu; subst hu; rfl
      case c3E => unfold maxLen; omega
      case c4E => omega
      case c5E => omega
      intro v' w2 hown hgrow _ hat
      obtain ⟨A9, c9, rfl⟩ := owns_slice hown
      have G := Lib.hid (gache_good C.out HF.out HM.out HE.out HO.out hgrow hown (HOwn.out w1 _ hN1 hat) hcap)
      have dd2 : w2.cell? ⟨pc, 2, none⟩ = some (.slice A l.length c) ∧ pc < w2.heap.size ∧ w2.frozen? ⟨pc, 2, none⟩ = false := gache_head2 C.out HF.out hgrow
      obtain ⟨z2, zlt, zf⟩ := dd2
      clear hown hgrow d2 dlt dfz2
      go_wp2_with fail
      go_ret
      exact ⟨by rw [HE.out] <;> rfl, G.out.1, G.out.2⟩
    · have HE := Lib.hid hE
      have E1 := Lib.hid (show (d.ops l).eraseE o.at_ ≠ 0 from fun hh => hE (eE.trans hh))
      have E0 := Lib.hid eE.symm
      clear eE eM he hE hb0
      obtain ⟨x, hx⟩ : ∃ x, (d.ops l).eraseE o.at_ = x := ⟨_, rfl⟩
      have X1 : (x == 0) = false := by have := E1.out; rw [hx] at this; simpa using this
      have X0 := Lib.hid hx
      clear hx
      go_enter Tryz.func83, Tryz.ntmps83
      go_wp2_with (go_at_call 87; refine (eclos_any p2 q2 n2 _ b o.at_ _ M.out cb).mono ?_; rintro e w1 ⟨rfl, hM, hF⟩; rw [X0.out]; rw [← EM.out] at hM; have HM := Lib.hid hM; have HF := Lib.hid hF; clear hM hF)
      go_ret
      exact ⟨by rw [← E0.out, X0.out] <;> rfl, (gache_bad C.out HF.out HM.out HE.out).1, (gache_bad C.out HF.out HM.out HE.out).2⟩
  · have eE : (d.ops l).opE o = (d.ops l).writeE o.at_ o.bs := by unfold Med.opE; rw [he]; rfl
    have eM : (d.ops l).op o = (d.ops l).write o.at_ o.bs := by unfold Med.op; rw [he]; rfl
    have EM := Lib.hid eM
    have Hbt := Lib.hid hbt
    by_cases hE : (d.ops l).opE o = 0
    · have HE := Lib.hid hE
      have E0 := Lib.hid (eE.symm.trans hE)
      clear eE eM he hE ha0 hb0 hbt
      go_enter Tryz.func83, Tryz.ntmps83
      go_wp2_with (first | (go_at_call 84; refine (wclos_any p2 q2 n2 _ a b o.at_ A' o.bs c' _ M.out ca cb Hbt.out.rd hl).mono ?_; rintro e w1 ⟨rfl, hM, hF⟩; rw [E0.out]; rw [← EM.out] at hM; obtain ⟨d2, dlt, dfz⟩ := Hd.out _ hF; have HM := Lib.hid hM; have HF := Lib.hid hF; have dfz2 := dfz 2; have Row := Lib.hid (C.out.turned hF).2.2.1; have hN1 := hF.size; clear hM hF dfz) | (at_builtin; refine wpList_append_own_at _ rfl _ _ 116 rfl 0 120 i0 (.nilFunc) 1 8 Tryz.underlying116 hinf hz0 hz1 hz2 rfl (by decide) _ _ _ rfl (Row.out.alloc _) ⟨w1.heap.size, 0, none⟩ 1 1 [.func (.func 84) #[] #[.pointer (some ⟨a, 0, none⟩), .pointer (some ⟨b, 0, none⟩)]] rfl rfl (one_cell_new _ _ _) ?c2W ?c3W ?c4W ?c5W ?_))
      case c2W => intro u hu; simp at hu; subst hu; rfl
      case c3W => unfold maxLen; omega
      case c4W => omega
      case c5W => omega
      intro v' w2 hown hgrow _ hat
      obtain ⟨A9, c9, rfl⟩ := owns_slice hown
      have G := Lib.hid (gache_good C.out HF.out HM.out HE.out HO.out hgrow hown (HOwn.out w1 _ hN1 hat) hcap)
      have dd2 : w2.cell? ⟨pc, 2, none⟩ = some (.slice A l.length c) ∧ pc < w2.heap.size ∧ w2.frozen? ⟨pc, 2, none⟩ = false := gache_head2 C.out HF.out hgrow
      obtain ⟨z2, zlt, zf⟩ := dd2
      clear hown hgrow d2 dlt dfz2
      go_wp2_with fail
      go_ret
      exact ⟨by rw [HE.out] <;> rfl, G.out.1, G.out.2⟩
    · have HE := Lib.hid hE
      have E1 := Lib.hid (show (d.ops l).writeE o.at_ o.bs ≠ 0 from fun hh => hE (eE.trans hh))
      have E0 := Lib.hid eE.symm
      clear eE eM he hE ha0 hb0 hbt
      obtain ⟨x, hx⟩ : ∃ x, (d.ops l).writeE o.at_ o.bs = x := ⟨_, rfl⟩
      have X1 : (x == 0) = false := by have := E1.out; rw [hx] at this; simpa using this
      have X0 := Lib.hid hx
      clear hx
      go_enter Tryz.func83, Tryz.ntmps83
      go_wp2_with (go_at_call 84; refine (wclos_any p2 q2 n2 _ a b o.at_ A' o.bs c' _ M.out ca cb Hbt.out.rd hl).mono ?_; rintro e w1 ⟨rfl, hM, hF⟩; rw [X0.out]; rw [← EM.out] at hM; have HM := Lib.hid hM; have HF := Lib.hid hF; clear hM hF)
      go_ret
      exact ⟨by rw [← E0.out, X0.out] <;> rfl, (gache_bad C.out HF.out HM.out HE.out).1, (gache_bad C.out HF.out HM.out HE.out).2⟩

set_option maxHeartbeats 2000000 in
set_option maxRecDepth 1000000 in
theorem gerase_any (G : Nat → Prop) (pc : Nat) (d : Med) (l : List Opn) (k : Int) (bs : List UInt8) (w : World) (h : IsGache w G pc d l) (hG : ∀ k, w.heap.size ≤ k → G k) (hlen : l.length ≤ 1000000) :
    Calls Tryz.prog 62 #[.pointer (some ⟨pc, 0, none⟩), .int .i64 k] w (GdoIs G pc d l ⟨true, k, bs⟩ w) := by
  have hb0 : Below w.heap.size w (w.alloc (.cells #[.int .i64 k] 3)) := (Below.refl _ _).alloc (Nat.le_refl _) _
  have HG := Lib.hid hG
  have C := Lib.hid (h.below hb0)
  have ho : OperIs (w.alloc (.cells #[.int .i64 k] 3)) (.func (.func 87) #[] #[.pointer (some ⟨w.heap.size, 0, none⟩)]) ⟨true, k, bs⟩ := .inl ⟨rfl, _, rfl, ⟨_, _, heap_alloc_new _ _⟩, by rw [World.cell?_alloc_mark]; rfl⟩
  have HO := Lib.hid ho
  have HB := Lib.hid hb0
  clear h hb0 ho hG
  go_enter Tryz.func62, Tryz.ntmps62
  go_wp2_with (go_at_call 83; refine (gdo_any G pc d l ⟨true, k, bs⟩ _ _ C.out HO.out (fun k hk => HG.out k (by simp at hk; omega)) (fun n p0 b e => by simp at e) hlen).mono ?_; rintro e w1 ⟨rfl, hC, hF⟩; have HC := Lib.hid hC; have HF := Lib.hid hF; clear hC hF)
  go_ret
  exact ⟨rfl, HC.out, (FrG.ofBelow HB.out).trans HF.out⟩

set_option maxHeartbeats 2000000 in
set_option maxRecDepth 1000000 in
theorem gwrite_any (G : Nat → Prop) (pc : Nat) (d : Med) (l : List Opn) (a : Int) (A : Option Addr) (bs : List UInt8) (c : Nat) (w : World) (h : IsGache w G pc d l) (hl : BytesRd w A bs) (hbs : bs.length ≤ 140737488351232) (hG : ∀ k, w.heap.size ≤ k → G k) (hlen : l.length ≤ 1000000) :
    Calls Tryz.prog 54 #[.pointer (some ⟨pc, 0, none⟩), .int .i64 a, .slice A bs.length c] w (GdoIs G pc d l ⟨false, a, bs⟩ w) := by
  have H := Lib.hid h
  have Hl := Lib.hid hl
  have HG := Lib.hid hG
  clear h hl hG
  go_enter Tryz.func54, Tryz.ntmps54
  go_wp2_with (first | (go_at_call 82; refine (cloneBytes_any A bs c _ (Hl.out.below (by repeat (first | (with_reducible exact Below.refl _ _) | (with_reducible refine Below.drew ?_) | (with_reducible refine below_drw ?_ _) | (with_reducible refine below_alloc ?_ _) | (with_reducible refine below_set ?_ (by simp <;> omega) _) | (refine below_of (by assumption) ?_)))) hbs).mono ?_; rintro e w1 ⟨A1, c1, rfl, hbt, hb⟩; obtain ⟨k2, kf, hO, hB⟩ := write_oper (c1 := c1) hb hbt hbs; have HO := Lib.hid hO; have HB := Lib.hid hB; have ks : w.heap.size + 1 < w1.heap.size := (by have := hb.size; simp at this; omega); clear hbt hO hB hb) | (go_at_call 83; refine (gdo_any G pc d l ⟨false, a, bs⟩ _ _ (H.out.below HB.out) HO.out (fun k hk => HG.out k (Nat.le_trans HB.out.size hk)) (fun n p0 b e => by simp at e; obtain ⟨_, _, rfl⟩ := e; exact HG.out _ (by omega)) hlen).mono ?_; rintro e w2 ⟨rfl, hC, hF⟩; have HC := Lib.hid hC; have HF := Lib.hid hF; clear hC hF))
  go_ret
  exact ⟨rfl, HC.out, (FrG.ofBelow HB.out).trans HF.out⟩
end Go.Proofs.YtmloiifnadaaoaaGreat
/- The walks of package cache, the caches told apart by a predicate: Cut, Flush. -/
namespace Go.Proofs.YtmloiifnadaaoaaGreat
open Go.RowKit
set_option linter.unusedVariables false
set_option linter.unusedSimpArgs false

/-- What stands when the durable sectors have turned. -/
theorem GacheAt.turnedD {w w1 : World} {G : Nat → Prop} {pc p1 q1 n1 p2 q2 n2 : Nat} {v : Value} {xs : List Value} {d : Med} {l : List Opn} (h : GacheAt w G pc p1 q1 n1 p2 q2 n2 v xs d l) (hF : Fr (· = q1) w w1) :
    w1.heap[pc]? = some (.cells #[.pointer (some ⟨p1, 0, none⟩), .pointer (some ⟨p2, 0, none⟩), v] 118 (0, 0)) ∧ IsMed w1 p2 q2 n2 (d.ops l) ∧ FrG G cacheTs w w1 := by
  have A1 : Avoid (· = q1) w [118, 126, 5, 120, 3, 53] := avoid_one h.dur.hasQ (by decide)
  exact ⟨(hF.block pc h.hasC.lt (A1.not h.hasC (by simp))).trans h.head, h.con.keep hF (A1.not h.con.hasP (by simp)) (Ne.symm h.ne) (fun k hk => A1 k _ hk (by simp)), FrG.ofOne hF h.dur.hasQ (by decide) h.le.2.1⟩
theorem gcut_nil {w1 : World} {G : Nat → Prop} {pc p1 q1 n1 p2 : Nat} {v : Value} {D : Med} (t : w1.heap[pc]? = some (.cells #[.pointer (some ⟨p1, 0, none⟩), .pointer (some ⟨p2, 0, none⟩), v] 118 (0, 0))) (hN : G pc) :
    (w1.setCell ⟨pc, 2, none⟩ (.slice none 0 0)).heap[pc]? = some (.cells #[.pointer (some ⟨p1, 0, none⟩), .pointer (some ⟨p2, 0, none⟩), .slice none 0 0] 118 (0, 0)) ∧ (∀ p q n m, IsMed w1 p q n m → IsMed (w1.setCell ⟨pc, 2, none⟩ (.slice none 0 0)) p q n m) ∧ FrG G cacheTs w1 (w1.setCell ⟨pc, 2, none⟩ (.slice none 0 0)) := by
  have hC : HasT w1 pc 118 := ⟨_, _, t⟩
  have F : Fr (· = pc) w1 (w1.setCell ⟨pc, 2, none⟩ (.slice none 0 0)) := Fr.setCell (S := fun k => k = pc) (p := ⟨pc, 2, none⟩) (Fr.refl _ w1) (.inl rfl) _
  exact ⟨head_set t 2 _, fun p q n m h => h.keepA F (avoid_one hC (by decide)), FrG.ofOne F hC (by decide) hN⟩
theorem gcut_same {w w1 : World} {G : Nat → Prop} {pc p1 q1 n1 p2 q2 n2 : Nat} {v : Value} {xs : List Value} {d : Med} {l : List Opn} (h : GacheAt w G pc p1 q1 n1 p2 q2 n2 v xs d l) (hF : Fr (· = q1) w w1) (hM : IsMed w1 p1 q1 n1 (d.ops l)) :
    IsGache (w1.setCell ⟨pc, 2, none⟩ (.slice none 0 0)) G pc (d.ops l) [] ∧ FrG G cacheTs w (w1.setCell ⟨pc, 2, none⟩ (.slice none 0 0)) := by
  obtain ⟨t, hM2, F1⟩ := h.turnedD hF
  obtain ⟨t2, hk, F2⟩ := gcut_nil (G := G) (q1 := q1) (n1 := n1) (D := d) t h.le.1
  exact ⟨⟨p1, q1, n1, p2, q2, n2, _, [], t2, hk _ _ _ _ hM, hk _ _ _ _ hM2, h.ne, World.ownsRow_nil _ _ _ _, (fun i o ho => by simp at ho), (fun k hk => by simp [Value.ownBlock] at hk), h.le, (fun x hx => by cases hx)⟩, F1.trans F2⟩
theorem gcut_lost {w w1 w3 : World} {G : Nat → Prop} {pc p1 q1 n1 p2 q2 n2 p5 q5 n5 : Nat} {v : Value} {xs : List Value} {d D : Med} {l : List Opn} (h : GacheAt w G pc p1 q1 n1 p2 q2 n2 v xs d l) (hF : Fr (· = q1) w w1) (hM : IsMed w1 p1 q1 n1 D)
    (hb : Below (w1.setCell ⟨pc, 2, none⟩ (.slice none 0 0)).heap.size (w1.setCell ⟨pc, 2, none⟩ (.slice none 0 0)) w3) (h5 : IsMed w3 p5 q5 n5 D) (hG5 : G q5) (hp : (w1.setCell ⟨pc, 2, none⟩ (.slice none 0 0)).heap.size ≤ p5) (hq : (w1.setCell ⟨pc, 2, none⟩ (.slice none 0 0)).heap.size ≤ q5) :
    (w3.cell? ⟨pc, 1, none⟩ = some (.pointer (some ⟨p2, 0, none⟩)) ∧ pc < w3.heap.size ∧ w3.frozen? ⟨pc, 1, none⟩ = false) ∧ IsGache (w3.setCell ⟨pc, 1, none⟩ (.pointer (some ⟨p5, 0, none⟩))) G pc D [] ∧ FrG G cacheTs w (w3.setCell ⟨pc, 1, none⟩ (.pointer (some ⟨p5, 0, none⟩))) := by
  obtain ⟨t, hM2, F1⟩ := h.turnedD hF
  obtain ⟨t2, hk, F2⟩ := gcut_nil (G := G) (q1 := q1) (n1 := n1) (D := d) t h.le.1
  have t3 : w3.heap[pc]? = _ := (hb.block pc (Array.getElem?_eq_some_iff.1 t2).1).trans t2
  have hC : HasT w3 pc 118 := ⟨_, _, t3⟩
  have F : Fr (· = pc) w3 (w3.setCell ⟨pc, 1, none⟩ (.pointer (some ⟨p5, 0, none⟩))) := Fr.setCell (S := fun k => k = pc) (p := ⟨pc, 1, none⟩) (Fr.refl _ w3) (.inl rfl) _
  have hM' := ((hk _ _ _ _ hM).below hb).keepA F (avoid_one hC (by decide))
  have h5' := h5.keepA F (avoid_one hC (by decide))
  have hlt := (hk _ _ _ _ hM).hasQ.lt
  obtain ⟨_, z1, _, z2, z3, _⟩ := head_cells t3
  have hpc := (Array.getElem?_eq_some_iff.1 t2).1
  exact ⟨⟨z1, z2, z3⟩, ⟨p1, q1, n1, p5, q5, n5, _, [], head_set t3 1 _, hM', h5', by omega, World.ownsRow_nil _ _ _ _, (fun i o ho => by simp at ho), (fun k hk => by simp [Value.ownBlock] at hk), ⟨h.le.1, h.le.2.1, hG5⟩, (fun x hx => by cases hx)⟩, ((F1.trans F2).call hb).trans (FrG.ofOne F hC (by decide) h.le.1)⟩
theorem GacheAt.cap {w : World} {G : Nat → Prop} {pc p1 q1 n1 p2 q2 n2 : Nat} {A : Option Addr} {c : Nat} {xs : List Value} {d : Med} {l : List Opn} (h : GacheAt w G pc p1 q1 n1 p2 q2 n2 (.slice A l.length c) xs d l) : l.length ≤ c := by
  rcases h.row.2 with ⟨h1, _⟩ | ⟨g, cap, cur, h1, _, _, h2, _⟩
  · injection h1 with _ h2 h3; omega
  · injection h1 with _ _ h3; omega
/-- A pending operation, found. -/
theorem GacheAt.operAt {w wr : World} {G : Nat → Prop} {pc p1 q1 n1 p2 q2 n2 : Nat} {A : Option Addr} {c : Nat} {xs : List Value} {d : Med} {l : List Opn} (h : GacheAt w G pc p1 q1 n1 p2 q2 n2 (.slice A l.length c) xs d l) (hF : Fr (· = q1) w wr) {j : Nat} {o : Opn} (ho : l[j]? = some o) :
    ∃ g x, A = some ⟨g, 0, none⟩ ∧ wr.cell? ⟨g, j, none⟩ = some x ∧ OperIs wr x o := by
  have A1 : Avoid (· = q1) w [120, 3, 53, 5] := avoid_one h.dur.hasQ (by decide)
  have hlt := (List.getElem?_eq_some_iff.1 ho).1
  obtain ⟨x, hx, hox⟩ := h.ops j o ho
  have hxl := h.row.1
  rcases h.row.2 with ⟨_, hn⟩ | ⟨g, cap, cur, h1, _, hg, h2, _⟩
  · omega
  · injection h1 with h3 _ h4
    subst h3
    subst h4
    refine ⟨g, x, rfl, ?_, hox.keepA hF (A1.sub (by simp))⟩
    refine hF.cell ?_ (A1.not (T := 120) ⟨_, _, hg⟩ (by simp))
    rw [h.row.cellAt _ (by omega)]; exact hx
set_option maxHeartbeats 4000000 in
set_option maxRecDepth 1000000 in
theorem gcut_low (G : Nat → Prop) (pc : Nat) (d : Med) (l : List Opn) (keep : Int) (w : World) (h : IsGache w G pc d l) (hG : ∀ k, w.heap.size ≤ k → G k) (hlen : l.length ≤ 1000000) (hk : keep < 0) :
    Calls Tryz.prog 39 #[.pointer (some ⟨pc, 0, none⟩), .int .i64 keep] w fun e w' => e = .returned (.tuple #[]) ∧ IsGache w' G pc (d.ops (l.take (0))) [] ∧ FrG G cacheTs w w' := by
  obtain ⟨p1, q1, n1, p2, q2, n2, v, xs, h⟩ := h
  have c0 := h.c0
  have c2 := h.c2
  have hpl := h.hasC.lt
  obtain ⟨A, c, rfl, _, _⟩ := h.form
  have C := Lib.hid h
  have hcap := h.cap
  have hlo : keep < (l.length : Int) := by omega
  have M0 := Lib.hid h.dur
  have HG := Lib.hid hG
  clear h hG
  go_enter Tryz.func39, Tryz.ntmps39
  go_wp2_with fail
  go_region
  go_wp2
  go_loopw [30] (fun i wr => ∃ j : Nat, j ≤ 0 ∧ i = .int .i64 j ∧ IsMed wr p1 q1 n1 (d.ops (l.take j)) ∧ Fr (· = q1) w wr) (fun i _ => 0 - (intOf i).toNat)
  case atStart => exact ⟨0, Nat.zero_le _, rfl, M0.out.drew, (Fr.refl _ _).drew⟩
  case round =>
    obtain ⟨j, hj, rfl, M, F⟩ := hrel
    obtain ⟨z0, z1, z2, z3, z4, z5⟩ := head_cells (C.out.turnedD F).1
    clear c0 c2
    by_cases hjn : j < 0
    · omega
    · have hjn' : j = 0 := by omega
      rw [hjn'] at M
      have hj9 : ¬ ((j : Int) < 0) := by omega
      clear hjn' hj hjn
      have HM := Lib.hid M
      have HF := Lib.hid F
      clear M F
      have hks := gcut_nil (G := G) (q1 := q1) (n1 := n1) (D := d) (C.out.turnedD HF.out).1 C.out.le.1
      have HM2 := Lib.hid (hks.2.1 _ _ _ _ HM.out)
      clear hks
      go_wp2_with (go_at_call 71; refine (mclone_any p1 q1 n1 _ _ HM2.out).mono ?_; rintro e w3 ⟨hb, p5, q5, n5, rfl, hp5, hq5, hM5⟩; have HG := Lib.hid (gcut_lost C.out HF.out HM.out hb hM5 (HG.out q5 (by have := HF.out.size; have h9 : wr.heap.size ≤ q5 := (by simpa [World.setCell] using hq5); omega)) hp5 hq5); obtain ⟨y1, y2, y3⟩ := HG.out.1; clear hb hM5)
      go_end0
      exact ⟨rfl, HG.out.2.1, HG.out.2.2⟩

set_option maxHeartbeats 4000000 in
set_option maxRecDepth 1000000 in
theorem gcut_mid (G : Nat → Prop) (pc : Nat) (d : Med) (l : List Opn) (k : Nat) (w : World) (h : IsGache w G pc d l) (hG : ∀ k, w.heap.size ≤ k → G k) (hlen : l.length ≤ 1000000) (hk : k < l.length) :
    Calls Tryz.prog 39 #[.pointer (some ⟨pc, 0, none⟩), .int .i64 (k : Int)] w fun e w' => e = .returned (.tuple #[]) ∧ IsGache w' G pc (d.ops (l.take (k))) [] ∧ FrG G cacheTs w w' := by
  obtain ⟨p1, q1, n1, p2, q2, n2, v, xs, h⟩ := h
  have c0 := h.c0
  have c2 := h.c2
  have hpl := h.hasC.lt
  obtain ⟨A, c, rfl, _, _⟩ := h.form
  have C := Lib.hid h
  have hcap := h.cap
  have hk2 : (k : Int) ≤ (c : Int) := by omega
  have hk0 : (0 : Int) ≤ (k : Int) := by omega
  have hlo : (k : Int) < (l.length : Int) := by omega
  have X1 : (k : Int).toNat = k := rfl
  have M0 := Lib.hid h.dur
  have HG := Lib.hid hG
  clear h hG
  go_enter Tryz.func39, Tryz.ntmps39
  go_wp2_with fail
  go_region
  go_wp2
  go_loopw [30] (fun i wr => ∃ j : Nat, j ≤ k ∧ i = .int .i64 j ∧ IsMed wr p1 q1 n1 (d.ops (l.take j)) ∧ Fr (· = q1) w wr) (fun i _ => k - (intOf i).toNat)
  case atStart => exact ⟨0, Nat.zero_le _, rfl, M0.out.drew, (Fr.refl _ _).drew⟩
  case round =>
    obtain ⟨j, hj, rfl, M, F⟩ := hrel
    obtain ⟨z0, z1, z2, z3, z4, z5⟩ := head_cells (C.out.turnedD F).1
    clear c0 c2
    by_cases hjn : j < k
    · have hjl : j < l.length := by omega
      have ho : l[j]? = some l[j] := List.getElem?_eq_getElem hjl
      have htk : l.take (j + 1) = l.take j ++ [l[j]] := List.take_succ_eq_append_getElem hjl
      generalize l[j] = o at *
      have hsum : d.ops (l.take (j + 1)) = (d.ops (l.take j)).op o := by rw [htk, Med.ops_snoc]
      generalize d.ops (l.take j) = mj at *
      obtain ⟨g, x, rfl, hx, hox⟩ := C.out.operAt F ho
      have hj2 : (j : Int) < ((k : Nat) : Int) := by omega
      have hj0 : (0 : Int) ≤ (j : Int) := by omega
      have Hs := Lib.hid hsum
      have HM := Lib.hid M
      have HF := Lib.hid F
      clear hsum M F htk ho z1 z4 z5
      rcases hox with ⟨he, b, rfl, hb0, cb⟩ | ⟨he, hl, a, b, A', c', rfl, ha0, hb0, ca, cb, hbt⟩
      · have HE := Lib.hid (Med.op_er (m := mj) he)
        clear he hb0
        go_wp2_with (go_at_call 87; refine (eclos_any p1 q1 n1 _ b o.at_ _ HM.out cb).mono ?_; rintro e w1 ⟨rfl, hM, hF⟩; rw [← HE.out] at hM; have HM1 := Lib.hid hM; have HF1 := Lib.hid hF; clear hM hF)
        go_roundw
        case rel => exact ⟨j + 1, by omega, by go_num, by rw [Hs.out]; exact HM1.out, HF.out.trans HF1.out⟩
        case measure => simp [intOf]; omega
      · have HE := Lib.hid (Med.op_wr (m := mj) he)
        have Hbt := Lib.hid hbt
        clear he hb0 ha0 hbt
        go_wp2_with (go_at_call 84; refine (wclos_any p1 q1 n1 _ a b o.at_ A' o.bs c' _ HM.out ca cb Hbt.out.rd hl).mono ?_; rintro e w1 ⟨rfl, hM, hF⟩; rw [← HE.out] at hM; have HM1 := Lib.hid hM; have HF1 := Lib.hid hF; clear hM hF)
        go_roundw
        case rel => exact ⟨j + 1, by omega, by go_num, by rw [Hs.out]; exact HM1.out, HF.out.trans HF1.out⟩
        case measure => simp [intOf]; omega
    · have hjn' : j = k := by omega
      subst hjn'
      have HM := Lib.hid M
      have HF := Lib.hid F
      clear M F
      have hks := gcut_nil (G := G) (q1 := q1) (n1 := n1) (D := d) (C.out.turnedD HF.out).1 C.out.le.1
      have HM2 := Lib.hid (hks.2.1 _ _ _ _ HM.out)
      clear hks
      go_wp2_with (go_at_call 71; refine (mclone_any p1 q1 n1 _ _ HM2.out).mono ?_; rintro e w3 ⟨hb, p5, q5, n5, rfl, hp5, hq5, hM5⟩; have HG := Lib.hid (gcut_lost C.out HF.out HM.out hb hM5 (HG.out q5 (by have := HF.out.size; have h9 : wr.heap.size ≤ q5 := (by simpa [World.setCell] using hq5); omega)) hp5 hq5); obtain ⟨y1, y2, y3⟩ := HG.out.1; clear hb hM5)
      go_end0
      exact ⟨rfl, HG.out.2.1, HG.out.2.2⟩

set_option maxHeartbeats 4000000 in
set_option maxRecDepth 1000000 in
theorem gcut_eq (G : Nat → Prop) (pc : Nat) (d : Med) (l : List Opn)  (w : World) (h : IsGache w G pc d l) (hG : ∀ k, w.heap.size ≤ k → G k) (hlen : l.length ≤ 1000000)  :
    Calls Tryz.prog 39 #[.pointer (some ⟨pc, 0, none⟩), .int .i64 (l.length : Int)] w fun e w' => e = .returned (.tuple #[]) ∧ IsGache w' G pc (d.ops (l.take (l.length))) [] ∧ FrG G cacheTs w w' := by
  obtain ⟨p1, q1, n1, p2, q2, n2, v, xs, h⟩ := h
  have c0 := h.c0
  have c2 := h.c2
  have hpl := h.hasC.lt
  obtain ⟨A, c, rfl, _, _⟩ := h.form
  have C := Lib.hid h
  have hcap := h.cap
  have hk2 : (l.length : Int) ≤ (c : Int) := by omega
  have hk0 : (0 : Int) ≤ (l.length : Int) := by omega
  have M0 := Lib.hid h.dur
  have HG := Lib.hid hG
  clear h hG
  go_enter Tryz.func39, Tryz.ntmps39
  go_wp2_with fail
  go_region
  go_wp2
  go_loopw [30] (fun i wr => ∃ j : Nat, j ≤ l.length ∧ i = .int .i64 j ∧ IsMed wr p1 q1 n1 (d.ops (l.take j)) ∧ Fr (· = q1) w wr) (fun i _ => l.length - (intOf i).toNat)
  case atStart => exact ⟨0, Nat.zero_le _, rfl, M0.out.drew, (Fr.refl _ _).drew⟩
  case round =>
    obtain ⟨j, hj, rfl, M, F⟩ := hrel
    obtain ⟨z0, z1, z2, z3, z4, z5⟩ := head_cells (C.out.turnedD F).1
    clear c0 c2
    by_cases hjn : j < l.length
    · have hjl : j < l.length := by omega
      have ho : l[j]? = some l[j] := List.getElem?_eq_getElem hjl
      have htk : l.take (j + 1) = l.take j ++ [l[j]] := List.take_succ_eq_append_getElem hjl
      generalize l[j] = o at *
      have hsum : d.ops (l.take (j + 1)) = (d.ops (l.take j)).op o := by rw [htk, Med.ops_snoc]
      generalize d.ops (l.take j) = mj at *
      obtain ⟨g, x, rfl, hx, hox⟩ := C.out.operAt F ho
      have hj2 : (j : Int) < ((l.length : Nat) : Int) := by omega
      have hj0 : (0 : Int) ≤ (j : Int) := by omega
      have Hs := Lib.hid hsum
      have HM := Lib.hid M
      have HF := Lib.hid F
      clear hsum M F htk ho z1 z4 z5
      rcases hox with ⟨he, b, rfl, hb0, cb⟩ | ⟨he, hl, a, b, A', c', rfl, ha0, hb0, ca, cb, hbt⟩
      · have HE := Lib.hid (Med.op_er (m := mj) he)
        clear he hb0
        go_wp2_with (go_at_call 87; refine (eclos_any p1 q1 n1 _ b o.at_ _ HM.out cb).mono ?_; rintro e w1 ⟨rfl, hM, hF⟩; rw [← HE.out] at hM; have HM1 := Lib.hid hM; have HF1 := Lib.hid hF; clear hM hF)
        go_roundw
        case rel => exact ⟨j + 1, by omega, by go_num, by rw [Hs.out]; exact HM1.out, HF.out.trans HF1.out⟩
        case measure => simp [intOf]; omega
      · have HE := Lib.hid (Med.op_wr (m := mj) he)
        have Hbt := Lib.hid hbt
        clear he hb0 ha0 hbt
        go_wp2_with (go_at_call 84; refine (wclos_any p1 q1 n1 _ a b o.at_ A' o.bs c' _ HM.out ca cb Hbt.out.rd hl).mono ?_; rintro e w1 ⟨rfl, hM, hF⟩; rw [← HE.out] at hM; have HM1 := Lib.hid hM; have HF1 := Lib.hid hF; clear hM hF)
        go_roundw
        case rel => exact ⟨j + 1, by omega, by go_num, by rw [Hs.out]; exact HM1.out, HF.out.trans HF1.out⟩
        case measure => simp [intOf]; omega
    · have hjn' : j = l.length := by omega
      subst hjn'
      have HM := Lib.hid M
      have HF := Lib.hid F
      clear M F
      have HG := Lib.hid (gcut_same C.out HF.out (by have := HM.out; rw [List.take_length] at this; exact this))
      go_wp2_with fail
      go_end0
      exact ⟨rfl, by rw [List.take_length]; exact HG.out.1, HG.out.2⟩

set_option maxHeartbeats 4000000 in
set_option maxRecDepth 1000000 in
theorem gcut_high (G : Nat → Prop) (pc : Nat) (d : Med) (l : List Opn) (keep : Int) (w : World) (h : IsGache w G pc d l) (hG : ∀ k, w.heap.size ≤ k → G k) (hlen : l.length ≤ 1000000) (hk : (l.length : Int) < keep) :
    Calls Tryz.prog 39 #[.pointer (some ⟨pc, 0, none⟩), .int .i64 keep] w fun e w' => e = .returned (.tuple #[]) ∧ IsGache w' G pc (d.ops (l.take (l.length))) [] ∧ FrG G cacheTs w w' := by
  obtain ⟨p1, q1, n1, p2, q2, n2, v, xs, h⟩ := h
  have c0 := h.c0
  have c2 := h.c2
  have hpl := h.hasC.lt
  obtain ⟨A, c, rfl, _, _⟩ := h.form
  have C := Lib.hid h
  have hcap := h.cap
  have hk2 : (l.length : Int) ≤ (c : Int) := by omega
  have hk0 : 0 ≤ keep := by omega
  have M0 := Lib.hid h.dur
  have HG := Lib.hid hG
  clear h hG
  go_enter Tryz.func39, Tryz.ntmps39
  go_wp2_with fail
  go_region
  go_wp2
  go_loopw [30] (fun i wr => ∃ j : Nat, j ≤ l.length ∧ i = .int .i64 j ∧ IsMed wr p1 q1 n1 (d.ops (l.take j)) ∧ Fr (· = q1) w wr) (fun i _ => l.length - (intOf i).toNat)
  case atStart => exact ⟨0, Nat.zero_le _, rfl, M0.out.drew, (Fr.refl _ _).drew⟩
  case round =>
    obtain ⟨j, hj, rfl, M, F⟩ := hrel
    obtain ⟨z0, z1, z2, z3, z4, z5⟩ := head_cells (C.out.turnedD F).1
    clear c0 c2
    by_cases hjn : j < l.length
    · have hjl : j < l.length := by omega
      have ho : l[j]? = some l[j] := List.getElem?_eq_getElem hjl
      have htk : l.take (j + 1) = l.take j ++ [l[j]] := List.take_succ_eq_append_getElem hjl
      generalize l[j] = o at *
      have hsum : d.ops (l.take (j + 1)) = (d.ops (l.take j)).op o := by rw [htk, Med.ops_snoc]
      generalize d.ops (l.take j) = mj at *
      obtain ⟨g, x, rfl, hx, hox⟩ := C.out.operAt F ho
      have hj2 : (j : Int) < ((l.length : Nat) : Int) := by omega
      have hj0 : (0 : Int) ≤ (j : Int) := by omega
      have Hs := Lib.hid hsum
      have HM := Lib.hid M
      have HF := Lib.hid F
      clear hsum M F htk ho z1 z4 z5
      rcases hox with ⟨he, b, rfl, hb0, cb⟩ | ⟨he, hl, a, b, A', c', rfl, ha0, hb0, ca, cb, hbt⟩
      · have HE := Lib.hid (Med.op_er (m := mj) he)
        clear he hb0
        go_wp2_with (go_at_call 87; refine (eclos_any p1 q1 n1 _ b o.at_ _ HM.out cb).mono ?_; rintro e w1 ⟨rfl, hM, hF⟩; rw [← HE.out] at hM; have HM1 := Lib.hid hM; have HF1 := Lib.hid hF; clear hM hF)
        go_roundw
        case rel => exact ⟨j + 1, by omega, by go_num, by rw [Hs.out]; exact HM1.out, HF.out.trans HF1.out⟩
        case measure => simp [intOf]; omega
      · have HE := Lib.hid (Med.op_wr (m := mj) he)
        have Hbt := Lib.hid hbt
        clear he hb0 ha0 hbt
        go_wp2_with (go_at_call 84; refine (wclos_any p1 q1 n1 _ a b o.at_ A' o.bs c' _ HM.out ca cb Hbt.out.rd hl).mono ?_; rintro e w1 ⟨rfl, hM, hF⟩; rw [← HE.out] at hM; have HM1 := Lib.hid hM; have HF1 := Lib.hid hF; clear hM hF)
        go_roundw
        case rel => exact ⟨j + 1, by omega, by go_num, by rw [Hs.out]; exact HM1.out, HF.out.trans HF1.out⟩
        case measure => simp [intOf]; omega
    · have hjn' : j = l.length := by omega
      subst hjn'
      have HM := Lib.hid M
      have HF := Lib.hid F
      clear M F
      have HG := Lib.hid (gcut_same C.out HF.out (by have := HM.out; rw [List.take_length] at this; exact this))
      go_wp2_with fail
      go_end0
      exact ⟨rfl, by rw [List.take_length]; exact HG.out.1, HG.out.2⟩

theorem gcut_any (G : Nat → Prop) (pc : Nat) (d : Med) (l : List Opn) (keep : Int) (w : World) (h : IsGache w G pc d l) (hG : ∀ k, w.heap.size ≤ k → G k) (hlen : l.length ≤ 1000000) :
    Calls Tryz.prog 39 #[.pointer (some ⟨pc, 0, none⟩), .int .i64 keep] w fun e w' => e = .returned (.tuple #[]) ∧ IsGache w' G pc (d.ops (l.take (keepN keep l))) [] ∧ FrG G cacheTs w w' := by
  by_cases h1 : keep < 0
  · have e : keepN keep l = 0 := by unfold keepN; omega
    rw [e]; exact gcut_low G pc d l keep w h hG hlen h1
  · by_cases h2 : keep < l.length
    · obtain ⟨k, rfl⟩ := Int.eq_ofNat_of_zero_le (show 0 ≤ keep by omega)
      have e : keepN (k : Int) l = k := by unfold keepN; omega
      rw [e]; exact gcut_mid G pc d l k w h hG hlen (by omega)
    · by_cases h3 : keep = l.length
      · subst h3
        have e : keepN (l.length : Int) l = l.length := by unfold keepN; omega
        rw [e]; exact gcut_eq G pc d l w h hG hlen
      · have e : keepN keep l = l.length := by unfold keepN; omega
        rw [e]; exact gcut_high G pc d l keep w h hG hlen (by omega)
set_option maxHeartbeats 1000000 in
theorem gflush_any (G : Nat → Prop) (pc : Nat) (d : Med) (l : List Opn) (w : World) (h : IsGache w G pc d l) (hG : ∀ k, w.heap.size ≤ k → G k) (hlen : l.length ≤ 1000000) :
    Calls Tryz.prog 55 #[.pointer (some ⟨pc, 0, none⟩)] w fun e w' => e = .returned (.tuple #[]) ∧ IsGache w' G pc (d.ops l) [] ∧ FrG G cacheTs w w' := by
  have H := Lib.hid h
  have HG := Lib.hid hG
  clear hG
  obtain ⟨p1, q1, n1, p2, q2, n2, v, xs, h⟩ := h
  have c2 := h.c2
  obtain ⟨A, c, rfl, _, _⟩ := h.form
  clear h
  go_enter Tryz.func55, Tryz.ntmps55
  go_wp2_with (go_at_call 39; refine (gcut_eq G pc d l _ H.out HG.out hlen).mono ?_; rintro e w1 ⟨rfl, hC, hF⟩; rw [List.take_length] at hC; have HC := Lib.hid hC; have HF := Lib.hid hF; clear hC hF)
  go_end0
  exact ⟨rfl, HC.out, HF.out⟩
end Go.Proofs.YtmloiifnadaaoaaGreat
