/- The walks of package cache, the caches told apart by a predicate: Cut, Flush. -/
import Derived.Test.YtmloiifnadaaoaaDcW1
import Derived.Test.YtmloiifnadaaoaaCchW4
namespace Go.Proofs.Ytmloiifnadaaoaa
open Go.RowKit
set_option linter.unusedVariables false
set_option linter.unusedSimpArgs false

/-- What stands when the durable sectors have turned. -/
theorem GacheAt.turnedD {w w1 : World} {G : Nat → Prop} {pc p1 q1 n1 p2 q2 n2 : Nat} {v : Value} {xs : List Value} {d : Med} {l : List Opn} (h : GacheAt w G pc p1 q1 n1 p2 q2 n2 v xs d l) (hF : Fr (· = q1) w w1) :
    w1.heap[pc]? = some (.cells #[.pointer (some ⟨p1, 0, none⟩), .pointer (some ⟨p2, 0, none⟩), v] 146 (0, 0)) ∧ IsMed w1 p2 q2 n2 (d.ops l) ∧ FrG G cacheTs w w1 := by
  have A1 : Avoid (· = q1) w [146, 136, 5, 149, 3, 38] := avoid_one h.dur.hasQ (by decide)
  exact ⟨(hF.block pc h.hasC.lt (A1.not h.hasC (by simp))).trans h.head, h.con.keep hF (A1.not h.con.hasP (by simp)) (Ne.symm h.ne) (fun k hk => A1 k _ hk (by simp)), FrG.ofOne hF h.dur.hasQ (by decide) h.le.2.1⟩
theorem gcut_nil {w1 : World} {G : Nat → Prop} {pc p1 q1 n1 p2 : Nat} {v : Value} {D : Med} (t : w1.heap[pc]? = some (.cells #[.pointer (some ⟨p1, 0, none⟩), .pointer (some ⟨p2, 0, none⟩), v] 146 (0, 0))) (hN : G pc) :
    (w1.setCell ⟨pc, 2, none⟩ (.slice none 0 0)).heap[pc]? = some (.cells #[.pointer (some ⟨p1, 0, none⟩), .pointer (some ⟨p2, 0, none⟩), .slice none 0 0] 146 (0, 0)) ∧ (∀ p q n m, IsMed w1 p q n m → IsMed (w1.setCell ⟨pc, 2, none⟩ (.slice none 0 0)) p q n m) ∧ FrG G cacheTs w1 (w1.setCell ⟨pc, 2, none⟩ (.slice none 0 0)) := by
  have hC : HasT w1 pc 146 := ⟨_, _, t⟩
  have F : Fr (· = pc) w1 (w1.setCell ⟨pc, 2, none⟩ (.slice none 0 0)) := Fr.setCell (S := fun k => k = pc) (p := ⟨pc, 2, none⟩) (Fr.refl _ w1) (.inl rfl) _
  exact ⟨head_set t 2 _, fun p q n m h => h.keepA F (avoid_one hC (by decide)), FrG.ofOne F hC (by decide) hN⟩
theorem gcut_same {w w1 : World} {G : Nat → Prop} {pc p1 q1 n1 p2 q2 n2 : Nat} {v : Value} {xs : List Value} {d : Med} {l : List Opn} (h : GacheAt w G pc p1 q1 n1 p2 q2 n2 v xs d l) (hF : Fr (· = q1) w w1) (hM : IsMed w1 p1 q1 n1 (d.ops l)) :
    IsGache (w1.setCell ⟨pc, 2, none⟩ (.slice none 0 0)) G pc (d.ops l) [] ∧ FrG G cacheTs w (w1.setCell ⟨pc, 2, none⟩ (.slice none 0 0)) := by
  obtain ⟨t, hM2, F1⟩ := h.turnedD hF
  obtain ⟨t2, hk, F2⟩ := gcut_nil (G := G) (q1 := q1) (n1 := n1) (D := d) t h.le.1
  exact ⟨⟨p1, q1, n1, p2, q2, n2, _, [], t2, hk _ _ _ _ hM, hk _ _ _ _ hM2, h.ne, World.ownsRow_nil _ _ _ _, (fun i o ho => by simp at ho), (fun k hk => by simp [Value.ownBlock] at hk), h.le, (fun x hx => by cases hx)⟩, F1.trans F2⟩
theorem gcut_lost {w w1 w3 : World} {G : Nat → Prop} {pc p1 q1 n1 p2 q2 n2 p5 q5 n5 : Nat} {v : Value} {xs : List Value} {d D : Med} {l : List Opn} (h : GacheAt w G pc p1 q1 n1 p2 q2 n2 v xs d l) (hF : Fr (· = q1) w w1) (hM : IsMed w1 p1 q1 n1 D)
    (hb : Below (w1.setCell ⟨pc, 2, none⟩ (.slice none 0 0)).heap.size (w1.setCell ⟨pc, 2, none⟩ (.slice none 0 0)) w3) (h5 : IsMed w3 p5 q5 n5 D) (hG5 : G q5) (hp : (w1.setCell ⟨pc, 2, none⟩ (.slice none 0 0)).heap.size ≤ p5) (hq : (w1.setCell ⟨pc, 2, none⟩ (.slice none 0 0)).heap.size ≤ q5) :
    (w3.cell? ⟨pc, 1, none⟩ = some (.pointer (some ⟨p2, 0, none⟩)) ∧ pc < w3.heap.size ∧ w3.frozen? ⟨pc, 1, none⟩ = false) ∧ IsGache (w3.setCell ⟨pc, 1, none⟩ (.pointer (some ⟨p5, 0, none⟩))) G pc D [] ∧ FrG G cacheTs w (w3.setCell ⟨pc, 1, none⟩ (.pointer (some ⟨p5, 0, none⟩))) := by
  obtain ⟨t, hM2, F1⟩ := h.turnedD hF
  obtain ⟨t2, hk, F2⟩ := gcut_nil (G := G) (q1 := q1) (n1 := n1) (D := d) t h.le.1
  have t3 : w3.heap[pc]? = _ := (hb.block pc (Array.getElem?_eq_some_iff.1 t2).1).trans t2
  have hC : HasT w3 pc 146 := ⟨_, _, t3⟩
  have F : Fr (· = pc) w3 (w3.setCell ⟨pc, 1, none⟩ (.pointer (some ⟨p5, 0, none⟩))) := Fr.setCell (S := fun k => k = pc) (p := ⟨pc, 1, none⟩) (Fr.refl _ w3) (.inl rfl) _
  have hM' := ((hk _ _ _ _ hM).below hb).keepA F (avoid_one hC (by decide))
  have h5' := h5.keepA F (avoid_one hC (by decide))
  have hlt := (hk _ _ _ _ hM).hasQ.lt
  obtain ⟨_, z1, _, z2, z3, _⟩ := head_cells t3
  have hpc := (Array.getElem?_eq_some_iff.1 t2).1
  exact ⟨⟨z1, z2, z3⟩, ⟨p1, q1, n1, p5, q5, n5, _, [], head_set t3 1 _, hM', h5', by omega, World.ownsRow_nil _ _ _ _, (fun i o ho => by simp at ho), (fun k hk => by simp [Value.ownBlock] at hk), ⟨h.le.1, h.le.2.1, hG5⟩, (fun x hx => by cases hx)⟩, ((F1.trans F2).call hb).trans (FrG.ofOne F hC (by decide) h.le.1)⟩
theorem GacheAt.cap {w : World} {G : Nat → Prop} {pc p1 q1 n1 p2 q2 n2 : Nat} {A : Option Addr} {c : Nat} {xs : List Value} {d : Med} {l : List Opn} (h : GacheAt w G pc p1 q1 n1 p2 q2 n2 (.slice A l.length c) xs d l) : l.length ≤ c := by
  rcases h.row.2 with ⟨h1, _⟩ | ⟨g, cap, cur, h1, _, _, h2, _⟩
  · injection h1 with _ h2 h3; omega
  · injection h1 with _ _ h3; omega
/-- A pending operation, found. -/
theorem GacheAt.operAt {w wr : World} {G : Nat → Prop} {pc p1 q1 n1 p2 q2 n2 : Nat} {A : Option Addr} {c : Nat} {xs : List Value} {d : Med} {l : List Opn} (h : GacheAt w G pc p1 q1 n1 p2 q2 n2 (.slice A l.length c) xs d l) (hF : Fr (· = q1) w wr) {j : Nat} {o : Opn} (ho : l[j]? = some o) :
    ∃ g x, A = some ⟨g, 0, none⟩ ∧ wr.cell? ⟨g, j, none⟩ = some x ∧ OperIs wr x o := by
  have A1 : Avoid (· = q1) w [149, 3, 38, 5] := avoid_one h.dur.hasQ (by decide)
  have hlt := (List.getElem?_eq_some_iff.1 ho).1
  obtain ⟨x, hx, hox⟩ := h.ops j o ho
  have hxl := h.row.1
  rcases h.row.2 with ⟨_, hn⟩ | ⟨g, cap, cur, h1, _, hg, h2, _⟩
  · omega
  · injection h1 with h3 _ h4
    subst h3
    subst h4
    refine ⟨g, x, rfl, ?_, hox.keepA hF (A1.sub (by simp))⟩
    refine hF.cell ?_ (A1.not (T := 149) ⟨_, _, hg⟩ (by simp))
    rw [h.row.cellAt _ (by omega)]; exact hx
set_option maxHeartbeats 4000000 in
set_option maxRecDepth 1000000 in
theorem gcut_low (G : Nat → Prop) (pc : Nat) (d : Med) (l : List Opn) (keep : Int) (w : World) (h : IsGache w G pc d l) (hG : ∀ k, w.heap.size ≤ k → G k) (hlen : l.length ≤ 1000000) (hk : keep < 0) :
    Calls Try.prog 72 #[.pointer (some ⟨pc, 0, none⟩), .int .i64 keep] w fun e w' => e = .returned (.tuple #[]) ∧ IsGache w' G pc (d.ops (l.take (0))) [] ∧ FrG G cacheTs w w' := by
  obtain ⟨p1, q1, n1, p2, q2, n2, v, xs, h⟩ := h
  have c0 := h.c0
  have c2 := h.c2
  have hpl := h.hasC.lt
  obtain ⟨A, c, rfl, _, _⟩ := h.form
  have C := Lib.hid h
  have hcap := h.cap
  have hlo : keep < (l.length : Int) := by omega
  have M0 := Lib.hid h.dur
  have HG := Lib.hid hG
  clear h hG
  go_enter Try.func72, Try.ntmps72
  go_wp2_with fail
  go_region
  go_wp2
  go_loopw [30] (fun i wr => ∃ j : Nat, j ≤ 0 ∧ i = .int .i64 j ∧ IsMed wr p1 q1 n1 (d.ops (l.take j)) ∧ Fr (· = q1) w wr) (fun i _ => 0 - (intOf i).toNat)
  case atStart => exact ⟨0, Nat.zero_le _, rfl, M0.out.drew, (Fr.refl _ _).drew⟩
  case round =>
    obtain ⟨j, hj, rfl, M, F⟩ := hrel
    obtain ⟨z0, z1, z2, z3, z4, z5⟩ := head_cells (C.out.turnedD F).1
    clear c0 c2
    by_cases hjn : j < 0
    · omega
    · have hjn' : j = 0 := by omega
      rw [hjn'] at M
      have hj9 : ¬ ((j : Int) < 0) := by omega
      clear hjn' hj hjn
      have HM := Lib.hid M
      have HF := Lib.hid F
      clear M F
      have hks := gcut_nil (G := G) (q1 := q1) (n1 := n1) (D := d) (C.out.turnedD HF.out).1 C.out.le.1
      have HM2 := Lib.hid (hks.2.1 _ _ _ _ HM.out)
      clear hks
      go_wp2_with (go_at_call 56; refine (mclone_any p1 q1 n1 _ _ HM2.out).mono ?_; rintro e w3 ⟨hb, p5, q5, n5, rfl, hp5, hq5, hM5⟩; have HG := Lib.hid (gcut_lost C.out HF.out HM.out hb hM5 (HG.out q5 (by have := HF.out.size; have h9 : wr.heap.size ≤ q5 := (by simpa [World.setCell] using hq5); omega)) hp5 hq5); obtain ⟨y1, y2, y3⟩ := HG.out.1; clear hb hM5)
      go_end0
      exact ⟨rfl, HG.out.2.1, HG.out.2.2⟩

set_option maxHeartbeats 4000000 in
set_option maxRecDepth 1000000 in
theorem gcut_mid (G : Nat → Prop) (pc : Nat) (d : Med) (l : List Opn) (k : Nat) (w : World) (h : IsGache w G pc d l) (hG : ∀ k, w.heap.size ≤ k → G k) (hlen : l.length ≤ 1000000) (hk : k < l.length) :
    Calls Try.prog 72 #[.pointer (some ⟨pc, 0, none⟩), .int .i64 (k : Int)] w fun e w' => e = .returned (.tuple #[]) ∧ IsGache w' G pc (d.ops (l.take (k))) [] ∧ FrG G cacheTs w w' := by
  obtain ⟨p1, q1, n1, p2, q2, n2, v, xs, h⟩ := h
  have c0 := h.c0
  have c2 := h.c2
  have hpl := h.hasC.lt
  obtain ⟨A, c, rfl, _, _⟩ := h.form
  have C := Lib.hid h
  have hcap := h.cap
  have hk2 : (k : Int) ≤ (c : Int) := by omega
  have hk0 : (0 : Int) ≤ (k : Int) := by omega
  have hlo : (k : Int) < (l.length : Int) := by omega
  have X1 : (k : Int).toNat = k := rfl
  have M0 := Lib.hid h.dur
  have HG := Lib.hid hG
  clear h hG
  go_enter Try.func72, Try.ntmps72
  go_wp2_with fail
  go_region
  go_wp2
  go_loopw [30] (fun i wr => ∃ j : Nat, j ≤ k ∧ i = .int .i64 j ∧ IsMed wr p1 q1 n1 (d.ops (l.take j)) ∧ Fr (· = q1) w wr) (fun i _ => k - (intOf i).toNat)
  case atStart => exact ⟨0, Nat.zero_le _, rfl, M0.out.drew, (Fr.refl _ _).drew⟩
  case round =>
    obtain ⟨j, hj, rfl, M, F⟩ := hrel
    obtain ⟨z0, z1, z2, z3, z4, z5⟩ := head_cells (C.out.turnedD F).1
    clear c0 c2
    by_cases hjn : j < k
    · have hjl : j < l.length := by omega
      have ho : l[j]? = some l[j] := List.getElem?_eq_getElem hjl
      have htk : l.take (j + 1) = l.take j ++ [l[j]] := List.take_succ_eq_append_getElem hjl
      generalize l[j] = o at *
      have hsum : d.ops (l.take (j + 1)) = (d.ops (l.take j)).op o := by rw [htk, Med.ops_snoc]
      generalize d.ops (l.take j) = mj at *
      obtain ⟨g, x, rfl, hx, hox⟩ := C.out.operAt F ho
      have hj2 : (j : Int) < ((k : Nat) : Int) := by omega
      have hj0 : (0 : Int) ≤ (j : Int) := by omega
      have Hs := Lib.hid hsum
      have HM := Lib.hid M
      have HF := Lib.hid F
      clear hsum M F htk ho z1 z4 z5
      rcases hox with ⟨he, b, rfl, hb0, cb⟩ | ⟨he, hl, a, b, A', c', rfl, ha0, hb0, ca, cb, hbt⟩
      · have HE := Lib.hid (Med.op_er (m := mj) he)
        clear he hb0
        go_wp2_with (go_at_call 122; refine (eclos_any p1 q1 n1 _ b o.at_ _ HM.out cb).mono ?_; rintro e w1 ⟨rfl, hM, hF⟩; rw [← HE.out] at hM; have HM1 := Lib.hid hM; have HF1 := Lib.hid hF; clear hM hF)
        go_roundw
        case rel => exact ⟨j + 1, by omega, by go_num, by rw [Hs.out]; exact HM1.out, HF.out.trans HF1.out⟩
        case measure => simp [intOf]; omega
      · have HE := Lib.hid (Med.op_wr (m := mj) he)
        have Hbt := Lib.hid hbt
        clear he hb0 ha0 hbt
        go_wp2_with (go_at_call 119; refine (wclos_any p1 q1 n1 _ a b o.at_ A' o.bs c' _ HM.out ca cb Hbt.out.rd hl).mono ?_; rintro e w1 ⟨rfl, hM, hF⟩; rw [← HE.out] at hM; have HM1 := Lib.hid hM; have HF1 := Lib.hid hF; clear hM hF)
        go_roundw
        case rel => exact ⟨j + 1, by omega, by go_num, by rw [Hs.out]; exact HM1.out, HF.out.trans HF1.out⟩
        case measure => simp [intOf]; omega
    · have hjn' : j = k := by omega
      subst hjn'
      have HM := Lib.hid M
      have HF := Lib.hid F
      clear M F
      have hks := gcut_nil (G := G) (q1 := q1) (n1 := n1) (D := d) (C.out.turnedD HF.out).1 C.out.le.1
      have HM2 := Lib.hid (hks.2.1 _ _ _ _ HM.out)
      clear hks
      go_wp2_with (go_at_call 56; refine (mclone_any p1 q1 n1 _ _ HM2.out).mono ?_; rintro e w3 ⟨hb, p5, q5, n5, rfl, hp5, hq5, hM5⟩; have HG := Lib.hid (gcut_lost C.out HF.out HM.out hb hM5 (HG.out q5 (by have := HF.out.size; have h9 : wr.heap.size ≤ q5 := (by simpa [World.setCell] using hq5); omega)) hp5 hq5); obtain ⟨y1, y2, y3⟩ := HG.out.1; clear hb hM5)
      go_end0
      exact ⟨rfl, HG.out.2.1, HG.out.2.2⟩

set_option maxHeartbeats 4000000 in
set_option maxRecDepth 1000000 in
theorem gcut_eq (G : Nat → Prop) (pc : Nat) (d : Med) (l : List Opn)  (w : World) (h : IsGache w G pc d l) (hG : ∀ k, w.heap.size ≤ k → G k) (hlen : l.length ≤ 1000000)  :
    Calls Try.prog 72 #[.pointer (some ⟨pc, 0, none⟩), .int .i64 (l.length : Int)] w fun e w' => e = .returned (.tuple #[]) ∧ IsGache w' G pc (d.ops (l.take (l.length))) [] ∧ FrG G cacheTs w w' := by
  obtain ⟨p1, q1, n1, p2, q2, n2, v, xs, h⟩ := h
  have c0 := h.c0
  have c2 := h.c2
  have hpl := h.hasC.lt
  obtain ⟨A, c, rfl, _, _⟩ := h.form
  have C := Lib.hid h
  have hcap := h.cap
  have hk2 : (l.length : Int) ≤ (c : Int) := by omega
  have hk0 : (0 : Int) ≤ (l.length : Int) := by omega
  have M0 := Lib.hid h.dur
  have HG := Lib.hid hG
  clear h hG
  go_enter Try.func72, Try.ntmps72
  go_wp2_with fail
  go_region
  go_wp2
  go_loopw [30] (fun i wr => ∃ j : Nat, j ≤ l.length ∧ i = .int .i64 j ∧ IsMed wr p1 q1 n1 (d.ops (l.take j)) ∧ Fr (· = q1) w wr) (fun i _ => l.length - (intOf i).toNat)
  case atStart => exact ⟨0, Nat.zero_le _, rfl, M0.out.drew, (Fr.refl _ _).drew⟩
  case round =>
    obtain ⟨j, hj, rfl, M, F⟩ := hrel
    obtain ⟨z0, z1, z2, z3, z4, z5⟩ := head_cells (C.out.turnedD F).1
    clear c0 c2
    by_cases hjn : j < l.length
    · have hjl : j < l.length := by omega
      have ho : l[j]? = some l[j] := List.getElem?_eq_getElem hjl
      have htk : l.take (j + 1) = l.take j ++ [l[j]] := List.take_succ_eq_append_getElem hjl
      generalize l[j] = o at *
      have hsum : d.ops (l.take (j + 1)) = (d.ops (l.take j)).op o := by rw [htk, Med.ops_snoc]
      generalize d.ops (l.take j) = mj at *
      obtain ⟨g, x, rfl, hx, hox⟩ := C.out.operAt F ho
      have hj2 : (j : Int) < ((l.length : Nat) : Int) := by omega
      have hj0 : (0 : Int) ≤ (j : Int) := by omega
      have Hs := Lib.hid hsum
      have HM := Lib.hid M
      have HF := Lib.hid F
      clear hsum M F htk ho z1 z4 z5
      rcases hox with ⟨he, b, rfl, hb0, cb⟩ | ⟨he, hl, a, b, A', c', rfl, ha0, hb0, ca, cb, hbt⟩
      · have HE := Lib.hid (Med.op_er (m := mj) he)
        clear he hb0
        go_wp2_with (go_at_call 122; refine (eclos_any p1 q1 n1 _ b o.at_ _ HM.out cb).mono ?_; rintro e w1 ⟨rfl, hM, hF⟩; rw [← HE.out] at hM; have HM1 := Lib.hid hM; have HF1 := Lib.hid hF; clear hM hF)
        go_roundw
        case rel => exact ⟨j + 1, by omega, by go_num, by rw [Hs.out]; exact HM1.out, HF.out.trans HF1.out⟩
        case measure => simp [intOf]; omega
      · have HE := Lib.hid (Med.op_wr (m := mj) he)
        have Hbt := Lib.hid hbt
        clear he hb0 ha0 hbt
        go_wp2_with (go_at_call 119; refine (wclos_any p1 q1 n1 _ a b o.at_ A' o.bs c' _ HM.out ca cb Hbt.out.rd hl).mono ?_; rintro e w1 ⟨rfl, hM, hF⟩; rw [← HE.out] at hM; have HM1 := Lib.hid hM; have HF1 := Lib.hid hF; clear hM hF)
        go_roundw
        case rel => exact ⟨j + 1, by omega, by go_num, by rw [Hs.out]; exact HM1.out, HF.out.trans HF1.out⟩
        case measure => simp [intOf]; omega
    · have hjn' : j = l.length := by omega
      subst hjn'
      have HM := Lib.hid M
      have HF := Lib.hid F
      clear M F
      have HG := Lib.hid (gcut_same C.out HF.out (by have := HM.out; rw [List.take_length] at this; exact this))
      go_wp2_with fail
      go_end0
      exact ⟨rfl, by rw [List.take_length]; exact HG.out.1, HG.out.2⟩

set_option maxHeartbeats 4000000 in
set_option maxRecDepth 1000000 in
theorem gcut_high (G : Nat → Prop) (pc : Nat) (d : Med) (l : List Opn) (keep : Int) (w : World) (h : IsGache w G pc d l) (hG : ∀ k, w.heap.size ≤ k → G k) (hlen : l.length ≤ 1000000) (hk : (l.length : Int) < keep) :
    Calls Try.prog 72 #[.pointer (some ⟨pc, 0, none⟩), .int .i64 keep] w fun e w' => e = .returned (.tuple #[]) ∧ IsGache w' G pc (d.ops (l.take (l.length))) [] ∧ FrG G cacheTs w w' := by
  obtain ⟨p1, q1, n1, p2, q2, n2, v, xs, h⟩ := h
  have c0 := h.c0
  have c2 := h.c2
  have hpl := h.hasC.lt
  obtain ⟨A, c, rfl, _, _⟩ := h.form
  have C := Lib.hid h
  have hcap := h.cap
  have hk2 : (l.length : Int) ≤ (c : Int) := by omega
  have hk0 : 0 ≤ keep := by omega
  have M0 := Lib.hid h.dur
  have HG := Lib.hid hG
  clear h hG
  go_enter Try.func72, Try.ntmps72
  go_wp2_with fail
  go_region
  go_wp2
  go_loopw [30] (fun i wr => ∃ j : Nat, j ≤ l.length ∧ i = .int .i64 j ∧ IsMed wr p1 q1 n1 (d.ops (l.take j)) ∧ Fr (· = q1) w wr) (fun i _ => l.length - (intOf i).toNat)
  case atStart => exact ⟨0, Nat.zero_le _, rfl, M0.out.drew, (Fr.refl _ _).drew⟩
  case round =>
    obtain ⟨j, hj, rfl, M, F⟩ := hrel
    obtain ⟨z0, z1, z2, z3, z4, z5⟩ := head_cells (C.out.turnedD F).1
    clear c0 c2
    by_cases hjn : j < l.length
    · have hjl : j < l.length := by omega
      have ho : l[j]? = some l[j] := List.getElem?_eq_getElem hjl
      have htk : l.take (j + 1) = l.take j ++ [l[j]] := List.take_succ_eq_append_getElem hjl
      generalize l[j] = o at *
      have hsum : d.ops (l.take (j + 1)) = (d.ops (l.take j)).op o := by rw [htk, Med.ops_snoc]
      generalize d.ops (l.take j) = mj at *
      obtain ⟨g, x, rfl, hx, hox⟩ := C.out.operAt F ho
      have hj2 : (j : Int) < ((l.length : Nat) : Int) := by omega
      have hj0 : (0 : Int) ≤ (j : Int) := by omega
      have Hs := Lib.hid hsum
      have HM := Lib.hid M
      have HF := Lib.hid F
      clear hsum M F htk ho z1 z4 z5
      rcases hox with ⟨he, b, rfl, hb0, cb⟩ | ⟨he, hl, a, b, A', c', rfl, ha0, hb0, ca, cb, hbt⟩
      · have HE := Lib.hid (Med.op_er (m := mj) he)
        clear he hb0
        go_wp2_with (go_at_call 122; refine (eclos_any p1 q1 n1 _ b o.at_ _ HM.out cb).mono ?_; rintro e w1 ⟨rfl, hM, hF⟩; rw [← HE.out] at hM; have HM1 := Lib.hid hM; have HF1 := Lib.hid hF; clear hM hF)
        go_roundw
        case rel => exact ⟨j + 1, by omega, by go_num, by rw [Hs.out]; exact HM1.out, HF.out.trans HF1.out⟩
        case measure => simp [intOf]; omega
      · have HE := Lib.hid (Med.op_wr (m := mj) he)
        have Hbt := Lib.hid hbt
        clear he hb0 ha0 hbt
        go_wp2_with (go_at_call 119; refine (wclos_any p1 q1 n1 _ a b o.at_ A' o.bs c' _ HM.out ca cb Hbt.out.rd hl).mono ?_; rintro e w1 ⟨rfl, hM, hF⟩; rw [← HE.out] at hM; have HM1 := Lib.hid hM; have HF1 := Lib.hid hF; clear hM hF)
        go_roundw
        case rel => exact ⟨j + 1, by omega, by go_num, by rw [Hs.out]; exact HM1.out, HF.out.trans HF1.out⟩
        case measure => simp [intOf]; omega
    · have hjn' : j = l.length := by omega
      subst hjn'
      have HM := Lib.hid M
      have HF := Lib.hid F
      clear M F
      have HG := Lib.hid (gcut_same C.out HF.out (by have := HM.out; rw [List.take_length] at this; exact this))
      go_wp2_with fail
      go_end0
      exact ⟨rfl, by rw [List.take_length]; exact HG.out.1, HG.out.2⟩

theorem gcut_any (G : Nat → Prop) (pc : Nat) (d : Med) (l : List Opn) (keep : Int) (w : World) (h : IsGache w G pc d l) (hG : ∀ k, w.heap.size ≤ k → G k) (hlen : l.length ≤ 1000000) :
    Calls Try.prog 72 #[.pointer (some ⟨pc, 0, none⟩), .int .i64 keep] w fun e w' => e = .returned (.tuple #[]) ∧ IsGache w' G pc (d.ops (l.take (keepN keep l))) [] ∧ FrG G cacheTs w w' := by
  by_cases h1 : keep < 0
  · have e : keepN keep l = 0 := by unfold keepN; omega
    rw [e]; exact gcut_low G pc d l keep w h hG hlen h1
  · by_cases h2 : keep < l.length
    · obtain ⟨k, rfl⟩ := Int.eq_ofNat_of_zero_le (show 0 ≤ keep by omega)
      have e : keepN (k : Int) l = k := by unfold keepN; omega
      rw [e]; exact gcut_mid G pc d l k w h hG hlen (by omega)
    · by_cases h3 : keep = l.length
      · subst h3
        have e : keepN (l.length : Int) l = l.length := by unfold keepN; omega
        rw [e]; exact gcut_eq G pc d l w h hG hlen
      · have e : keepN keep l = l.length := by unfold keepN; omega
        rw [e]; exact gcut_high G pc d l keep w h hG hlen (by omega)
set_option maxHeartbeats 1000000 in
theorem gflush_any (G : Nat → Prop) (pc : Nat) (d : Med) (l : List Opn) (w : World) (h : IsGache w G pc d l) (hG : ∀ k, w.heap.size ≤ k → G k) (hlen : l.length ≤ 1000000) :
    Calls Try.prog 64 #[.pointer (some ⟨pc, 0, none⟩)] w fun e w' => e = .returned (.tuple #[]) ∧ IsGache w' G pc (d.ops l) [] ∧ FrG G cacheTs w w' := by
  have H := Lib.hid h
  have HG := Lib.hid hG
  clear hG
  obtain ⟨p1, q1, n1, p2, q2, n2, v, xs, h⟩ := h
  have c2 := h.c2
  obtain ⟨A, c, rfl, _, _⟩ := h.form
  clear h
  go_enter Try.func64, Try.ntmps64
  go_wp2_with (go_at_call 72; refine (gcut_eq G pc d l _ H.out HG.out hlen).mono ?_; rintro e w1 ⟨rfl, hC, hF⟩; rw [List.take_length] at hC; have HC := Lib.hid hC; have HF := Lib.hid hF; clear hC hF)
  go_end0
  exact ⟨rfl, HC.out, HF.out⟩
end Go.Proofs.Ytmloiifnadaaoaa
