/- The walks of play, same, fair, awake (tegulalaw11). -/
import Derived.Test.YtmloiifnadaaoaaOpsH
import Derived.Lib.SlBytesConst
namespace Go.Proofs.Ytmloiifnadaaoaa
open Go.RowKit
set_option linter.unusedVariables false
set_option linter.unusedSimpArgs false

/-- The cells of an operation read as they did, and so does all below B. -/
def HeldOp (B : Nat) (w : World) (g x : Nat) (er : Bool) (at_ : Int) (A : Option Addr) (n c : Nat) (W : World) : Prop :=
  W.cell? ⟨g, x, none⟩ = some (.bool er) ∧ W.cell? ⟨g, x + 1, none⟩ = some (.int .i64 at_) ∧ W.cell? ⟨g, x + 2, none⟩ = some (.slice A n c) ∧ Below B w W
theorem HeldOp.keep {B : Nat} {w : World} {g x : Nat} {er : Bool} {at_ : Int} {A : Option Addr} {n c : Nat} {W w' : World} (h : HeldOp B w g x er at_ A n c W) {q : Nat} (hF : Fr (· = q) W w') (hB : B ≤ w.heap.size) (hq : B ≤ q) (hg : g < B) : HeldOp B w g x er at_ A n c w' := by
  obtain ⟨h1, h2, h3, h4⟩ := h
  have hb := hF.below_ne (Nat.le_trans hB h4.size) hq
  exact ⟨(hb.cell (p := ⟨g, x, none⟩) hg).trans h1, (hb.cell (p := ⟨g, x + 1, none⟩) hg).trans h2, (hb.cell (p := ⟨g, x + 2, none⟩) hg).trans h3, h4.trans hb⟩

theorem IsMed.frR {w w' : World} {p q cap p' q' cap' : Nat} {m n : Med} (h : IsMed w p q cap m) (r : IsRef w p' q' cap' n) (hF : Fr (· = q') w w') : IsMed w' p q cap m :=
  h.keep hF (fun e => h.hasP.ne r.hasQ (by decide) e) (fun e => h.hasQ.ne r.hasQ (by decide) e) (fun k e hh => by subst e; exact hh.ne r.hasQ (by decide) rfl)
theorem IsRef.frM {w w' : World} {p q cap p' q' cap' : Nat} {m n : Med} (r : IsRef w p' q' cap' n) (h : IsMed w p q cap m) (hF : Fr (· = q) w w') : IsRef w' p' q' cap' n :=
  r.keep hF (fun e => r.hasP.ne h.hasQ (by decide) e) (fun e => r.hasQ.ne h.hasQ (by decide) e)
theorem Fr.or1 {q q' : Nat} {w w' : World} (h : Fr (· = q) w w') : Fr (fun k => k = q ∨ k = q') w w' := h.mono (fun _ _ e => .inl e)
theorem Fr.or2 {q q' : Nat} {w w' : World} (h : Fr (· = q') w w') : Fr (fun k => k = q ∨ k = q') w w' := h.mono (fun _ _ e => .inr e)
theorem IsMed.drew {w : World} {p q cap : Nat} {m : Med} (h : IsMed w p q cap m) : IsMed w.drew p q cap m := h.below (Below.refl _ _).drew
theorem IsRef.drew {w : World} {p q cap : Nat} {m : Med} (h : IsRef w p q cap m) : IsRef w.drew p q cap m := h.below (Below.refl _ _).drew

set_option maxHeartbeats 4000000 in
set_option maxRecDepth 1000000 in
/-- play on a medium and its like of the reference: true, and both go on alike. -/
theorem play_any (B p q cap p' q' cap' : Nat) (m : Med) (A : Option Addr) (l : List Opn) (c : Nat) (w : World) (hM : IsMed w p q cap m) (hR : IsRef w p' q' cap' m) (hl : OpsB w B A l)
    (hB : B ≤ w.heap.size) (hq : B ≤ q) (hq' : B ≤ q') (hlen : l.length ≤ 140737488351232) (hlens : ∀ o ∈ l, o.bs.length ≤ 140737488351232) :
    Calls Try.prog 54 #[.pointer (some ⟨p, 0, none⟩), .pointer (some ⟨p', 0, none⟩), .slice A l.length c] w fun e w' =>
      e = .returned (.bool true) ∧ IsMed w' p q cap (m.ops l) ∧ IsRef w' p' q' cap' (m.ops l) ∧ Fr (fun k => k = q ∨ k = q') w w' := by
  have Hl := Lib.hid hl
  have Hlens := Lib.hid hlens
  have HM := Lib.hid hM
  have HR := Lib.hid hR
  clear hl hlens hM hR
  go_enter Try.func54, Try.ntmps54
  go_wp2_with fail
  go_loopw [7] (fun i wr => ∃ j : Nat, j ≤ l.length ∧ i = .int .i64 j ∧ IsMed wr p q cap (m.ops (l.take j)) ∧ IsRef wr p' q' cap' (m.ops (l.take j)) ∧ Fr (fun k => k = q ∨ k = q') w wr) (fun i _ => l.length - (intOf i).toNat)
  case atStart => exact ⟨0, Nat.zero_le _, rfl, HM.out, HR.out, Fr.refl _ _⟩
  case round =>
    obtain ⟨j, hj, rfl, M, R, F⟩ := hrel
    by_cases hjn : j < l.length
    · have ho : l[j]? = some l[j] := List.getElem?_eq_getElem hjn
      have htk : l.take (j + 1) = l.take j ++ [l[j]] := List.take_succ_eq_append_getElem hjn
      have hmem : l[j] ∈ l := List.getElem_mem hjn
      generalize l[j] = o at *
      have hbw : Below B w wr := F.below hB (fun k hk e => by omega)
      have hsum : m.ops (l.take (j + 1)) = (m.ops (l.take j)).op o := by rw [htk, Med.ops_snoc]
      generalize m.ops (l.take j) = mj at *
      have hc : ∃ g off A' c', A = some ⟨g, off, none⟩ ∧ g < B ∧ HeldOp B w g (off + j * 3) o.er o.at_ A' o.bs.length c' wr ∧ BytesB wr B A' o.bs := by
        rcases (Hl.out.below hbw) with h1 | ⟨g, off, h1, h2, h3⟩
        · rw [h1] at hjn; simp at hjn
        · obtain ⟨A', c', h4, h5, h6, h7⟩ := h3 j o ho
          exact ⟨g, off, A', c', h1, h2, ⟨h4, h5, h6, hbw⟩, h7⟩
      obtain ⟨g, off, A', c', rfl, hg, hop, hby⟩ := hc
      have h3 := Lib.hid hsum
      have hbl := Hlens.out o hmem
      have hBd : B ≤ wr.drew.heap.size := Nat.le_trans hB hbw.size
      have Hby := Lib.hid (show BytesB wr.drew B A' o.bs from hby.below (Below.refl _ _).drew)
      have Hbw := Lib.hid hbw
      have Hop := Lib.hid (show HeldOp B w g (off + j * 3) o.er o.at_ A' o.bs.length c' wr.drew from ⟨hop.1, hop.2.1, hop.2.2.1, hop.2.2.2.drew⟩)
      clear hsum htk ho hmem hby hop hbw
      have hMd := M.drew
      have hRd := R.drew
      have hFd := F.drew
      have M := Lib.hid hMd
      have R := Lib.hid hRd
      have F := Lib.hid hFd
      clear hMd hRd hFd
      go_wp2_with fail
      go_region_held3 (fun W_ => W_.cell? ⟨g, off + j * 3, none⟩ = some (.bool o.er) ∧ W_.cell? ⟨g, off + j * 3 + 1, none⟩ = some (.int .i64 o.at_) ∧ W_.cell? ⟨g, off + j * 3 + 2, none⟩ = some (.slice A' o.bs.length c') ∧ Below B w W_) (first | exact Hop.out | exact HeldOp.keep (by assumption) (by assumption) hB hq hg | exact HeldOp.keep (by assumption) (by assumption) hB hq' hg) (first | (go_at_call 50; refine (do11_any p q cap mj o.er o.at_ o.bs A' c' _ M.out Hby.out.rd hbl).mono ?_; rintro e w1 ⟨rfl, M1, F1⟩; have R1 := Lib.hid (R.out.frM M.out F1); have F2 := Lib.hid (F.out.trans F1.or1); have B1 := Lib.hid (Hby.out.below (F1.below_ne hBd hq)); have M2 := Lib.hid M1; clear M1) | (go_at_call 61; refine (rdo_any p' q' cap' mj o.er o.at_ o.bs A' c' _ R1.out B1.out.rd hbl).mono ?_; rintro e w2 ⟨rfl, R3, G1⟩; have M3 := Lib.hid (M2.out.frR R1.out G1); have F3 := Lib.hid (F2.out.trans G1.or2); have R4 := Lib.hid R3; clear R3))
      go_wp2_with fail
      go_roundw
      case rel => exact ⟨j + 1, by omega, by go_num, by rw [h3.out]; exact M3.out, by rw [h3.out]; exact R4.out, F3.out⟩
      case measure => simp [intOf]; omega
    · have htk : l.take j = l := List.take_of_length_le (by omega)
      rw [htk] at M R
      have M' := Lib.hid M
      have R' := Lib.hid R
      clear M R htk
      go_wp2_with fail
      go_ret
      exact ⟨rfl, M'.out, R'.out, F⟩

set_option maxHeartbeats 4000000 in
set_option maxRecDepth 1000000 in
/-- same on a medium and its like of the reference: true. -/
theorem same_any (p q cap p' q' cap' : Nat) (m : Med) (w : World) (hM : IsMed w p q cap m) (hR : IsRef w p' q' cap' m) :
    Calls Try.prog 55 #[.pointer (some ⟨p, 0, none⟩), .pointer (some ⟨p', 0, none⟩)] w fun e w' => e = .returned (.bool true) ∧ Below w.heap.size w w' := by
  have c0 := hR.c0
  have c1 := hR.c1
  have c2 := hR.c2
  have c3 := hR.c3
  have c4 := hR.c4
  have hp' := hR.hasP.lt
  have hle := hM.good.len_le
  have HM := Lib.hid hM
  have HR := Lib.hid hR
  clear hM hR
  go_enter Try.func55, Try.ntmps55
  go_wp2_with fail
  go_region_held3 (fun W_ => (∀ b_ o_, b_ < (w).heap.size → W_.cell? ⟨b_, o_, none⟩ = (w).cell? ⟨b_, o_, none⟩) ∧ (∀ b_ o_, b_ < (w).heap.size → W_.frozen? ⟨b_, o_, none⟩ = (w).frozen? ⟨b_, o_, none⟩) ∧ (∀ k_, k_ < (w).heap.size → k_ < W_.heap.size) ∧ Below (w).heap.size (w) W_) (first | exact held_start _ | assumption | exact held_keep (by assumption) (by assumption) | exact held_keep (by assumption) ((Below.refl _ _).alloc (Nat.le_refl _) _) | exact held_of (by assumption)) (first | (go_at_call 58; refine (geometry_any p q cap m _ (HM.out.below (below_undrew (Below.refl _ _)))).mono ?_; rintro e w1 ⟨rfl, hb⟩))
  go_wp2_with fail
  go_loopw [5] (fun i wr => ∃ j : Nat, j ≤ m.l.length + 2 ∧ i = .int .i64 ((j : Int) - 1) ∧ Below w.heap.size w wr) (fun i _ => m.l.length + 2 - (intOf i + 1).toNat)
  case atStart => exact ⟨0, by omega, by go_num, (by repeat (first | (with_reducible exact Below.refl _ _) | (with_reducible refine Below.drew ?_) | (with_reducible refine below_drw ?_ _) | (with_reducible refine below_alloc ?_ _) | (with_reducible refine below_set ?_ (by simp <;> omega) _) | (refine below_of (by assumption) ?_)))⟩
  case round =>
    obtain ⟨j, hj, rfl, hb⟩ := hrel
    have M := Lib.hid (HM.out.below hb)
    have R := Lib.hid (HR.out.below hb)
    have d5 := (HR.out.below hb).c5
    clear c0 c1 c2 c3 c4
    by_cases hjn : j < m.l.length + 2
    · generalize ha : (j : Int) - 1 = a at *
      have ha1 : -1 ≤ a := by omega
      have ha2 : a ≤ m.l.length := by omega
      have hj1 : a = (j : Int) - 1 := ha.symm
      have Hj1 := Lib.hid hj1
      clear ha hj1
      go_wp2_with (first | (go_at_call 48; refine (read_any p q cap m a _ M.out).mono ?_; rintro e w1 ⟨A1, x1, rfl, hb1, hB1⟩; have R1 := Lib.hid (R.out.below hB1); have D1 := Lib.hid hB1; have Y1 := Lib.hid hb1; clear hb1 hB1) | (go_at_call 113; refine (rread_any p' q' cap' m a _ R1.out).mono ?_; rintro e w2 ⟨A2, x2, rfl, hb2, hB2⟩; have R2 := Lib.hid (R1.out.below hB2); have D2 := Lib.hid (below_of hB2 D1.out); have t1 := toStr_of (Y1.out.rd.below hB2) x1; have t2 := toStr_of hb2.rd x2; have M2 := Lib.hid (M.out.below D2.out); clear hb2 hB2) | (go_at_call 52; refine (state_any p q cap m a _ M2.out).mono ?_; rintro e w' ⟨rfl, rfl⟩) | (go_at_call 114; refine (rstate_any p' q' cap' m a _ R2.out).mono ?_; rintro e w' ⟨rfl, rfl⟩))
      go_roundw
      case rel => exact ⟨j + 1, by omega, by have := Hj1.out; go_num, below_of D2.out hb⟩
      case measure => have := Hj1.out; simp [intOf]; omega
    · go_wp2_with fail
      go_ret
      exact ⟨rfl, hb⟩

/-- A geometry is fair: valid and small. -/
def Geo.fair (g : Geo) : Bool := g.ok && decide (g.size ≤ 200)

set_option maxHeartbeats 1000000 in
theorem fair_any (r b t s o : Int) (w : World) : Calls Try.prog 45 #[.agg #[.int .i64 r, .int .i64 b, .int .i64 t, .int .i64 s, .int .i64 o]] w fun e w' => e = .returned (.bool (Geo.mk r b t s o).fair) ∧ Below w.heap.size w w' := by
  cases hv : (Geo.mk r b t s o).ok with
  | false =>
    have e : (Geo.mk r b t s o).fair = false := by unfold Geo.fair; rw [hv]; rfl
    rw [e]
    go_enter Try.func45, Try.ntmps45
    go_wp2_with (first | (go_at_call 30; refine (rvalid_any _ _ _ _ _ _).mono ?_; rintro e w' ⟨rfl, hb⟩; rw [hv]; (first | ((first | have hB1 := below_of hb hB | have hB1 := below_of hb (Below.drew hB) | have hB1 := below_of hb (below_drw hB _)); clear hB hb hc hf hz; have hB := hB1; clear hB1; obtain ⟨hc, hf, hz⟩ := bcell hB) | ((first | have hB1 := below_of hb (below_alloc hB _) | have hB1 := below_of hb (below_alloc (below_alloc hB _) _) | have hB1 := below_of hb (below_alloc (below_alloc (below_alloc hB _) _) _) | have hB1 := below_of hb (below_alloc (below_alloc (below_alloc (below_alloc hB _) _) _) _) | have hB1 := below_of hb (below_alloc (below_alloc (below_alloc (below_alloc (below_alloc hB _) _) _) _) _) | have hB1 := below_of hb (Below.drew (below_alloc hB _)) | have hB1 := below_of hb (Below.drew (below_alloc (below_alloc hB _) _)) | have hB1 := below_of hb (Below.drew (below_alloc (below_alloc (below_alloc hB _) _) _)) | have hB1 := below_of hb (Below.drew (below_alloc (below_alloc (below_alloc (below_alloc hB _) _) _) _)) | have hB1 := below_of hb (Below.drew (below_alloc (below_alloc (below_alloc (below_alloc (below_alloc hB _) _) _) _) _)) | have hB1 := below_of hb (below_drw (below_alloc hB _) _) | have hB1 := below_of hb (below_drw (below_alloc (below_alloc hB _) _) _) | have hB1 := below_of hb (below_drw (below_alloc (below_alloc (below_alloc hB _) _) _) _) | have hB1 := below_of hb (below_drw (below_alloc (below_alloc (below_alloc (below_alloc hB _) _) _) _) _) | have hB1 := below_of hb (below_drw (below_alloc (below_alloc (below_alloc (below_alloc (below_alloc hB _) _) _) _) _) _)); clear hB hc hf hz; have hB := hB1; clear hB1; obtain ⟨hc, hf, hz⟩ := bcell hB; obtain ⟨hc_, hf_, hz_⟩ := bcell hb; clear hb) | (have hB := hb; clear hb; obtain ⟨hc, hf, hz⟩ := bcell hB))))
    go_ret
    exact ⟨rfl, (by repeat (first | (with_reducible exact Below.refl _ _) | (with_reducible refine Below.drew ?_) | (with_reducible refine below_drw ?_ _) | (with_reducible refine below_alloc ?_ _) | (with_reducible refine below_set ?_ (by simp <;> omega) _) | (refine below_of (by assumption) ?_)))⟩
  | true =>
    have e : (Geo.mk r b t s o).fair = decide ((Geo.mk r b t s o).size ≤ 200) := by unfold Geo.fair; rw [hv]; rfl
    rw [e]
    go_enter Try.func45, Try.ntmps45
    go_wp2_with (first | (go_at_call 30; refine (rvalid_any _ _ _ _ _ _).mono ?_; rintro e w' ⟨rfl, hb⟩; rw [hv]; (first | ((first | have hB1 := below_of hb hB | have hB1 := below_of hb (Below.drew hB) | have hB1 := below_of hb (below_drw hB _)); clear hB hb hc hf hz; have hB := hB1; clear hB1; obtain ⟨hc, hf, hz⟩ := bcell hB) | ((first | have hB1 := below_of hb (below_alloc hB _) | have hB1 := below_of hb (below_alloc (below_alloc hB _) _) | have hB1 := below_of hb (below_alloc (below_alloc (below_alloc hB _) _) _) | have hB1 := below_of hb (below_alloc (below_alloc (below_alloc (below_alloc hB _) _) _) _) | have hB1 := below_of hb (below_alloc (below_alloc (below_alloc (below_alloc (below_alloc hB _) _) _) _) _) | have hB1 := below_of hb (Below.drew (below_alloc hB _)) | have hB1 := below_of hb (Below.drew (below_alloc (below_alloc hB _) _)) | have hB1 := below_of hb (Below.drew (below_alloc (below_alloc (below_alloc hB _) _) _)) | have hB1 := below_of hb (Below.drew (below_alloc (below_alloc (below_alloc (below_alloc hB _) _) _) _)) | have hB1 := below_of hb (Below.drew (below_alloc (below_alloc (below_alloc (below_alloc (below_alloc hB _) _) _) _) _)) | have hB1 := below_of hb (below_drw (below_alloc hB _) _) | have hB1 := below_of hb (below_drw (below_alloc (below_alloc hB _) _) _) | have hB1 := below_of hb (below_drw (below_alloc (below_alloc (below_alloc hB _) _) _) _) | have hB1 := below_of hb (below_drw (below_alloc (below_alloc (below_alloc (below_alloc hB _) _) _) _) _) | have hB1 := below_of hb (below_drw (below_alloc (below_alloc (below_alloc (below_alloc (below_alloc hB _) _) _) _) _) _)); clear hB hc hf hz; have hB := hB1; clear hB1; obtain ⟨hc, hf, hz⟩ := bcell hB; obtain ⟨hc_, hf_, hz_⟩ := bcell hb; clear hb) | (have hB := hb; clear hb; obtain ⟨hc, hf, hz⟩ := bcell hB))) | (go_at_call 32; refine (rsize_any _ _ _ _ _ _).mono ?_; rintro e w' ⟨rfl, hb⟩; (first | ((first | have hB1 := below_of hb hB | have hB1 := below_of hb (Below.drew hB) | have hB1 := below_of hb (below_drw hB _)); clear hB hb hc hf hz; have hB := hB1; clear hB1; obtain ⟨hc, hf, hz⟩ := bcell hB) | ((first | have hB1 := below_of hb (below_alloc hB _) | have hB1 := below_of hb (below_alloc (below_alloc hB _) _) | have hB1 := below_of hb (below_alloc (below_alloc (below_alloc hB _) _) _) | have hB1 := below_of hb (below_alloc (below_alloc (below_alloc (below_alloc hB _) _) _) _) | have hB1 := below_of hb (below_alloc (below_alloc (below_alloc (below_alloc (below_alloc hB _) _) _) _) _) | have hB1 := below_of hb (Below.drew (below_alloc hB _)) | have hB1 := below_of hb (Below.drew (below_alloc (below_alloc hB _) _)) | have hB1 := below_of hb (Below.drew (below_alloc (below_alloc (below_alloc hB _) _) _)) | have hB1 := below_of hb (Below.drew (below_alloc (below_alloc (below_alloc (below_alloc hB _) _) _) _)) | have hB1 := below_of hb (Below.drew (below_alloc (below_alloc (below_alloc (below_alloc (below_alloc hB _) _) _) _) _)) | have hB1 := below_of hb (below_drw (below_alloc hB _) _) | have hB1 := below_of hb (below_drw (below_alloc (below_alloc hB _) _) _) | have hB1 := below_of hb (below_drw (below_alloc (below_alloc (below_alloc hB _) _) _) _) | have hB1 := below_of hb (below_drw (below_alloc (below_alloc (below_alloc (below_alloc hB _) _) _) _) _) | have hB1 := below_of hb (below_drw (below_alloc (below_alloc (below_alloc (below_alloc (below_alloc hB _) _) _) _) _) _)); clear hB hc hf hz; have hB := hB1; clear hB1; obtain ⟨hc, hf, hz⟩ := bcell hB; obtain ⟨hc_, hf_, hz_⟩ := bcell hb; clear hb) | (have hB := hb; clear hb; obtain ⟨hc, hf, hz⟩ := bcell hB))))
    all_goals go_ret
    all_goals exact ⟨rfl, (by repeat (first | (with_reducible exact Below.refl _ _) | (with_reducible refine Below.drew ?_) | (with_reducible refine below_drw ?_ _) | (with_reducible refine below_alloc ?_ _) | (with_reducible refine below_set ?_ (by simp <;> omega) _) | (refine below_of (by assumption) ?_)))⟩

def exampleG : Geo := ⟨0, 1, 2, 2, 1⟩
def exampleM : Med := ((Med.new exampleG).write 2 [120]).write 0 [121]
theorem example_reads0 : exampleM.readE 0 = 0 ∧ exampleM.readB 0 = [121] ∧ exampleM.state 0 = 1 ∧ exampleM.state 1 = 0 ∧ exampleM.state 2 = 2 := by decide
theorem example_reads : ∃ m0 m1 m : Med, Med.new exampleG = m0 ∧ m0.write 2 [120] = m1 ∧ m1.write 0 [121] = m ∧ m.readE 0 = 0 ∧ m.readB 0 = [121] ∧ m.state 0 = 1 ∧ m.state 1 = 0 ∧ m.state 2 = 2 := ⟨_, _, _, rfl, rfl, rfl, example_reads0⟩
theorem bytes_one {w : World} {b : Nat} {x : UInt8} (h : w.cell? ⟨b, 0, none⟩ = some (.int .u8 (x.toNat : Int))) : BytesRd w (some ⟨b, 0, none⟩) [x] := by
  refine .inr ⟨b, 0, rfl, fun i y hy => ?_⟩
  cases i with
  | zero => obtain rfl := Option.some.inj hy; exact h
  | succ i => simp at hy

theorem below_fr {q : Nat} {w W W' : World} (h : Below w.heap.size w W) (hF : Fr (· = q) W W') (hq : w.heap.size ≤ q) : Below w.heap.size w W' := h.trans (hF.below_ne h.size hq)

set_option maxHeartbeats 4000000 in
set_option maxRecDepth 1000000 in
theorem awake_any (w : World) : Calls Try.prog 44 #[] w fun e w' => e = .returned (.bool true) ∧ Below w.heap.size w w' := by
  obtain ⟨m0, m1, m, y0, y1, y2, x2, x3, x4, x5, x6⟩ := example_reads
  have Y0 := Lib.hid y0
  have Y1 := Lib.hid y1
  have Y2 := Lib.hid y2
  clear y0 y1 y2
  have kc := fun (w : World) (C : Array Value) (n c : Nat) => Lib.run_convert_bytes_const (P := Try.prog) w 38 5 C n c Try.underlying38 Try.underlying5
  go_enter Try.func44, Try.ntmps44
  go_wp2_with (first | (go_at_call 46; refine (new_any _ _ _ _ _ _).mono ?_; rintro e w1 ⟨hb1, h | h⟩; exact absurd h.1 (by decide); obtain ⟨_, p, q, cap, rfl, hp, hq, hM⟩ := h; rw [show Med.new ⟨0, 1, 2, 2, 1⟩ = m0 from Y0.out] at hM; have M := Lib.hid hM; have D := Lib.hid hb1; clear hM hb1) | (go_at_call 47; refine (write_any p q cap m0 2 _ [120] 1 _ (M.out.below (by repeat (first | (with_reducible exact Below.refl _ _) | (with_reducible refine Below.drew ?_) | (with_reducible refine below_drw ?_ _) | (with_reducible refine below_alloc ?_ _) | (with_reducible refine below_set ?_ (by simp <;> omega) _) | (refine below_of (by assumption) ?_)))) (bytes_one (by rw [World.cell?_alloc_mark]; rfl)) (by decide)).mono ?_; rintro e w2 ⟨rfl, hM, hF⟩; rw [Y1.out] at hM; have M1 := Lib.hid hM; have D1 := Lib.hid (below_fr (below_alloc D.out _) hF hq); clear M hM hF) | (go_at_call 47; refine (write_any p q cap m1 0 _ [121] 1 _ (M1.out.below (by repeat (first | (with_reducible exact Below.refl _ _) | (with_reducible refine Below.drew ?_) | (with_reducible refine below_drw ?_ _) | (with_reducible refine below_alloc ?_ _) | (with_reducible refine below_set ?_ (by simp <;> omega) _) | (refine below_of (by assumption) ?_)))) (bytes_one (by rw [World.cell?_alloc_mark]; rfl)) (by decide)).mono ?_; rintro e w3 ⟨rfl, hM, hF⟩; rw [Y2.out] at hM; have M2 := Lib.hid hM; have D2 := Lib.hid (below_fr (below_alloc D1.out _) hF hq); clear M1 hM hF) | (go_at_call 48; refine (read_any p q cap m 0 _ M2.out).mono ?_; rintro e w4 ⟨A1, c1, rfl, hbt, hB⟩; have t1 := toStr_of hbt.rd c1; have M3 := Lib.hid (M2.out.below hB); have D3 := Lib.hid (below_of hB D2.out); rw [x2, x3]; rw [x3] at t1; (have t2 : (convert 38 9 (.slice A1 1 c1)).run Try.prog w4 = .ok (.string ⟨#[121]⟩) w4 := t1); clear t1 hbt hB) | (go_at_call 52; refine (state_any p q cap m _ _ M3.out).mono ?_; rintro e w5 ⟨rfl, rfl⟩; (first | rw [x4] | rw [x5] | rw [x6])))
  go_ret
  exact ⟨rfl, D3.out⟩
end Go.Proofs.Ytmloiifnadaaoaa
