/- Two disks that share a power supply, in memory: the program's and the reference's. -/
import Derived.Test.YtmloiifnadaaoaaGreatRDskH
import Derived.Test.YtmloiifnadaaoaaGreatDskC3
import Derived.Test.YtmloiifnadaaoaaGreatDskC4
import Derived.Test.YtmloiifnadaaoaaGreatDskC
namespace Go.Proofs.YtmloiifnadaaoaaGreat
open Go.RowKit
set_option linter.unusedVariables false

/-- The blocks of a disk without one that is no row of a disk's. -/
theorem IsGache.without {w : World} {G : Nat → Prop} {pc pp : Nat} {T : TypeId} {d : Med} {l : List Opn} (h : IsGache w G pc d l) (hp : HasT w pp T) (hT : (![118, 133, 120, 53].contains T) = true) : IsGache w (fun k => G k ∧ k ≠ pp) pc d l := by
  obtain ⟨p1, q1, n1, p2, q2, n2, v, xs, h⟩ := h
  have key : ∀ k U, HasT w k U → U ∈ [118, 133, 120, 53] → k ≠ pp := by
    intro k U hk hU
    refine hk.ne hp ?_
    rintro rfl
    simp only [Bool.not_eq_true', List.contains_eq_mem, decide_eq_false_iff_not] at hT
    exact hT hU
  exact ⟨p1, q1, n1, p2, q2, n2, v, xs, ⟨h.head, h.dur, h.con, h.ne, h.row, h.ops, fun k hk => ⟨h.own k hk, key k _ (owns_own h.row k hk).2 (by simp)⟩, ⟨⟨h.le.1, key _ _ h.hasC (by simp)⟩, ⟨h.le.2.1, key _ _ h.dur.hasQ (by simp)⟩, ⟨h.le.2.2, key _ _ h.con.hasQ (by simp)⟩⟩, fun x hx n p0 b e => by
    obtain ⟨o, ho⟩ := h.ops.mem h.row.1 hx
    exact ⟨h.capt x hx n p0 b e, key _ _ (ho.box e) (by simp)⟩⟩⟩
theorem IsDisk.without {w : World} {G : Nat → Prop} {pd pp : Nat} {D : Dsk} (h : IsDisk w G pd pp D) (hp : HasT w pp 83) : IsDisk w (fun k => G k ∧ k ≠ pp) pd pp D := by
  obtain ⟨pc, A, c, h⟩ := h
  exact ⟨pc, A, c, h.head, h.cache.without hp (by decide), h.flts, ⟨h.own, h.hasD.ne hp (by decide)⟩, h.geo⟩
theorem IsRDisk.without {w : World} {G : Nat → Prop} {pd pp : Nat} {D : Dsk} (h : IsRDisk w G pd pp D) (hp : HasT w pp 107) : IsRDisk w (fun k => G k ∧ k ≠ pp) pd pp D := by
  obtain ⟨pc, A, c, h⟩ := h
  have hc := h.cache
  obtain ⟨p, q, n, v, xs, hc⟩ := hc
  exact ⟨pc, A, c, h.head, ⟨p, q, n, v, xs, hc.head, hc.med, hc.row, hc.ops, hc.short, ⟨⟨hc.le.1, hc.hasC.ne hp (by decide)⟩, ⟨hc.le.2, hc.med.hasQ.ne hp (by decide)⟩⟩⟩, h.flts, ⟨h.own, h.hasD.ne hp (by decide)⟩, h.geo⟩

/-- A function of two, at one of them turned. -/
def upd {α : Type} (f : Bool → α) (i : Bool) (x : α) : Bool → α := fun j => if j = i then x else f j
theorem upd_same {α : Type} (f : Bool → α) (i : Bool) (x : α) : upd f i x i = x := by simp [upd]
theorem upd_other {α : Type} (f : Bool → α) {i j : Bool} (h : j ≠ i) (x : α) : upd f i x j = f j := by simp [upd, h]

/-- Two disks of the program on one power supply, all their blocks from B on. -/
structure TwoAt (w : World) (B pp : Nat) (q : Bool → Nat) (F : Bool → Nat → Prop) (P : Pow) (D : Bool → Dsk) : Prop where
  pow : IsPow w (· = pp) pp P
  dsk : ∀ i, IsDisk w (F i) (q i) pp (D i)
  le : ∀ i k, F i k → B ≤ k
  lp : B ≤ pp
  np : ∀ i, ¬ F i pp
  apart : ∀ k, F false k → F true k → False
def Two (w : World) (B pp : Nat) (q : Bool → Nat) (P : Pow) (D : Bool → Dsk) : Prop := ∃ F, TwoAt w B pp q F P D
/-- What one disk's operation asks and leaves, in a pair. -/
def At (F : Bool → Nat → Prop) (i : Bool) (pp n : Nat) (k : Nat) : Prop := F i k ∨ k = pp ∨ n ≤ k
namespace TwoAt
variable {w w' : World} {B pp : Nat} {q : Bool → Nat} {F : Bool → Nat → Prop} {P P' : Pow} {D : Bool → Dsk} {i : Bool} {d' : Dsk}
theorem one (h : TwoAt w B pp q F P D) (i : Bool) : IsDisk w (At F i pp w.heap.size) (q i) pp (D i) := (h.dsk i).mono (fun k _ hk => .inl hk)
theorem pone (h : TwoAt w B pp q F P D) (i : Bool) : IsPow w (At F i pp w.heap.size) pp P := h.pow.mono (fun hk => .inr (.inl hk))
theorem new (i : Bool) : ∀ k, w.heap.size ≤ k → At F i pp w.heap.size k := fun k hk => .inr (.inr hk)
theorem lt (h : TwoAt w B pp q F P D) : B ≤ w.heap.size := Nat.le_trans h.lp (Nat.le_of_lt h.pow.hasP.lt)
theorem bel {Ts : List TypeId} (h : TwoAt w B pp q F P D) (hF : FrG (At F i pp w.heap.size) Ts w w') : Below B w w' := hF.below h.lt (fun k hk => by
  rcases hk with hk | rfl | hk
  · exact h.le i k hk
  · exact h.lp
  · exact Nat.le_trans h.lt hk)
theorem step (h : TwoAt w B pp q F P D) (hd : IsDisk w' (At F i pp w.heap.size) (q i) pp d') (hp : IsPow w' (At F i pp w.heap.size) pp P') (hF : FrG (At F i pp w.heap.size) diskTs w w') : Two w' B pp q P' (upd D i d') := by
  refine ⟨fun j k => if j = i then At F i pp w.heap.size k ∧ k ≠ pp else F j k ∧ k < w.heap.size, ⟨hp.mono (fun _ => rfl), fun j => ?_, fun j k hk => ?_, h.lp, fun j hj => ?_, fun k h0 h1 => ?_⟩⟩
  · by_cases e : j = i
    · subst e
      rw [upd_same]
      simpa using hd.without hp.hasP
    · rw [upd_other _ e]
      have h1 : IsDisk w (fun k => F j k ∧ k < w.heap.size) (q j) pp (D j) := (h.dsk j).mono (fun k hl hk => ⟨hk, hl⟩)
      have h2 := h1.keepF hF (by
        rintro k hl ⟨hk, _⟩ ⟨hk2, _⟩
        rcases hk2 with hk2 | rfl | hk2
        · cases i <;> cases j <;> first | exact e rfl | exact h.apart k hk hk2 | exact h.apart k hk2 hk
        · exact h.np j hk
        · omega) (avoid_TG (by decide))
      simpa [e] using h2
  · by_cases e : j = i
    · subst e
      simp only [if_true] at hk
      rcases hk.1 with hk | rfl | hk
      · exact h.le j k hk
      · exact h.lp
      · exact Nat.le_trans h.lt hk
    · rw [if_neg e] at hk
      exact h.le j k hk.1
  · by_cases e : j = i
    · subst e
      simp only [if_true] at hj
      exact hj.2 rfl
    · rw [if_neg e] at hj
      exact h.np j hj.1
  · cases i <;> simp at h0 h1
    · rcases h0.1 with hk | rfl | hk
      · exact h.apart k hk h1.1
      · exact h.np true h1.1
      · omega
    · rcases h1.1 with hk | rfl | hk
      · exact h.apart k h0.1 hk
      · exact h.np false h0.1
      · omega
theorem keepA {S : Nat → Prop} (h : TwoAt w B pp q F P D) (hf : Fr S w w') (ha : Avoid S w diskUs) (hb : Avoid S w [83]) : TwoAt w' B pp q F P D :=
  ⟨h.pow.keepA hf hb, fun i => (h.dsk i).keepA hf ha, h.le, h.lp, h.np, h.apart⟩
end TwoAt
namespace Two
variable {w w' : World} {B pp : Nat} {q : Bool → Nat} {P : Pow} {D : Bool → Dsk}
theorem keepA {S : Nat → Prop} (h : Two w B pp q P D) (hf : Fr S w w') (ha : Avoid S w diskUs) (hb : Avoid S w [83]) : Two w' B pp q P D := by
  obtain ⟨F, h⟩ := h
  exact ⟨F, h.keepA hf ha hb⟩
theorem below (h : Two w B pp q P D) (hb : Below w.heap.size w w') : Two w' B pp q P D := h.keepA (Fr.ofBelow hb _) avoid_none avoid_none
theorem frG {G : Nat → Prop} (h : Two w B pp q P D) (hf : FrG G rdiskTs w w') : Two w' B pp q P D := h.keepA hf (avoid_TG (by decide)) (avoid_TG (by decide))
theorem lt (h : Two w B pp q P D) : B ≤ w.heap.size := by obtain ⟨F, h⟩ := h; exact h.lt
end Two

/-- The same of the reference. -/
structure RTwoAt (w : World) (B pp : Nat) (q : Bool → Nat) (F : Bool → Nat → Prop) (P : Pow) (D : Bool → Dsk) : Prop where
  pow : IsRPow w (· = pp) pp P
  dsk : ∀ i, IsRDisk w (F i) (q i) pp (D i)
  le : ∀ i k, F i k → B ≤ k
  lp : B ≤ pp
  np : ∀ i, ¬ F i pp
  apart : ∀ k, F false k → F true k → False
def RTwo (w : World) (B pp : Nat) (q : Bool → Nat) (P : Pow) (D : Bool → Dsk) : Prop := ∃ F, RTwoAt w B pp q F P D
namespace RTwoAt
variable {w w' : World} {B pp : Nat} {q : Bool → Nat} {F : Bool → Nat → Prop} {P P' : Pow} {D : Bool → Dsk} {i : Bool} {d' : Dsk}
theorem one (h : RTwoAt w B pp q F P D) (i : Bool) : IsRDisk w (At F i pp w.heap.size) (q i) pp (D i) := (h.dsk i).mono (fun k _ hk => .inl hk)
theorem pone (h : RTwoAt w B pp q F P D) (i : Bool) : IsRPow w (At F i pp w.heap.size) pp P := h.pow.mono (fun hk => .inr (.inl hk))
theorem lt (h : RTwoAt w B pp q F P D) : B ≤ w.heap.size := Nat.le_trans h.lp (Nat.le_of_lt h.pow.hasP.lt)
theorem bel {Ts : List TypeId} (h : RTwoAt w B pp q F P D) (hF : FrG (At F i pp w.heap.size) Ts w w') : Below B w w' := hF.below h.lt (fun k hk => by
  rcases hk with hk | rfl | hk
  · exact h.le i k hk
  · exact h.lp
  · exact Nat.le_trans h.lt hk)
theorem step (h : RTwoAt w B pp q F P D) (hd : IsRDisk w' (At F i pp w.heap.size) (q i) pp d') (hp : IsRPow w' (At F i pp w.heap.size) pp P') (hF : FrG (At F i pp w.heap.size) rdiskTs w w') : RTwo w' B pp q P' (upd D i d') := by
  refine ⟨fun j k => if j = i then At F i pp w.heap.size k ∧ k ≠ pp else F j k ∧ k < w.heap.size, ⟨hp.mono (fun _ => rfl), fun j => ?_, fun j k hk => ?_, h.lp, fun j hj => ?_, fun k h0 h1 => ?_⟩⟩
  · by_cases e : j = i
    · subst e
      rw [upd_same]
      simpa using hd.without hp.hasP
    · rw [upd_other _ e]
      have h1 : IsRDisk w (fun k => F j k ∧ k < w.heap.size) (q j) pp (D j) := (h.dsk j).mono (fun k hl hk => ⟨hk, hl⟩)
      have h2 := h1.keepF hF (by
        rintro k hl ⟨hk, _⟩ ⟨hk2, _⟩
        rcases hk2 with hk2 | rfl | hk2
        · cases i <;> cases j <;> first | exact e rfl | exact h.apart k hk hk2 | exact h.apart k hk2 hk
        · exact h.np j hk
        · omega) (avoid_TG (by decide))
      simpa [e] using h2
  · by_cases e : j = i
    · subst e
      simp only [if_true] at hk
      rcases hk.1 with hk | rfl | hk
      · exact h.le j k hk
      · exact h.lp
      · exact Nat.le_trans h.lt hk
    · rw [if_neg e] at hk
      exact h.le j k hk.1
  · by_cases e : j = i
    · subst e
      simp only [if_true] at hj
      exact hj.2 rfl
    · rw [if_neg e] at hj
      exact h.np j hj.1
  · cases i <;> simp at h0 h1
    · rcases h0.1 with hk | rfl | hk
      · exact h.apart k hk h1.1
      · exact h.np true h1.1
      · omega
    · rcases h1.1 with hk | rfl | hk
      · exact h.apart k h0.1 hk
      · exact h.np false h0.1
      · omega
theorem keepA {S : Nat → Prop} (h : RTwoAt w B pp q F P D) (hf : Fr S w w') (ha : Avoid S w rdiskUs) (hb : Avoid S w [107]) : RTwoAt w' B pp q F P D :=
  ⟨h.pow.keepA hf hb, fun i => (h.dsk i).keepA hf ha, h.le, h.lp, h.np, h.apart⟩
end RTwoAt
namespace RTwo
variable {w w' : World} {B pp : Nat} {q : Bool → Nat} {P : Pow} {D : Bool → Dsk}
theorem keepA {S : Nat → Prop} (h : RTwo w B pp q P D) (hf : Fr S w w') (ha : Avoid S w rdiskUs) (hb : Avoid S w [107]) : RTwo w' B pp q P D := by
  obtain ⟨F, h⟩ := h
  exact ⟨F, h.keepA hf ha hb⟩
theorem below (h : RTwo w B pp q P D) (hb : Below w.heap.size w w') : RTwo w' B pp q P D := h.keepA (Fr.ofBelow hb _) avoid_none avoid_none
theorem frG {G : Nat → Prop} (h : RTwo w B pp q P D) (hf : FrG G diskTs w w') : RTwo w' B pp q P D := h.keepA hf (avoid_TG (by decide)) (avoid_TG (by decide))
theorem lt (h : RTwo w B pp q P D) : B ≤ w.heap.size := by obtain ⟨F, h⟩ := h; exact h.lt
end RTwo
end Go.Proofs.YtmloiifnadaaoaaGreat
/- Plain mathematics of acts on two disks that share a power supply. -/
namespace Go.Proofs.YtmloiifnadaaoaaGreat
open Go.RowKit
set_option linter.unusedVariables false

/-- The state of two disks and their power supply. -/
structure St where
  p : Pow
  d : Bool → Dsk
/-- Which disk an act is of. -/
def Act.side (a : Act) : Bool := decide (a.disk.toNat % 2 = 1)
/-- What Acquire leaves. -/
def Dsk.acqO (D : Dsk) (P : Pow) (key : Int) : Out := ⟨D.state P, if D.state P = 0 then { D with key := key } else D, P⟩
/-- What one disk's act leaves. -/
def Dsk.actO (D : Dsk) (P : Pow) (a : Act) : Out :=
  if a.kind = 0 then D.readO P a.key a.at_
  else if a.kind = 1 then D.writeO_ P a.key a.at_ a.bs a.force
  else if a.kind = 2 then D.eraseO P a.key a.at_
  else if a.kind = 3 then D.flushO P a.key
  else if a.kind = 4 then D.acqO P a.key
  else if a.kind = 5 then ⟨0, { D with dead := true }, P⟩
  else if a.kind = 6 then D.restartO P a.at_
  else if a.kind = 7 then ⟨0, D, P.arm a.at_⟩
  else if a.kind = 8 then ⟨0, D, P.on⟩
  else ⟨0, D, P⟩
def Dsk.actB (D : Dsk) (P : Pow) (a : Act) : List UInt8 := if a.kind = 0 then D.readBs P a.key a.at_ else []
namespace St
def out (s : St) (a : Act) : Out := (s.d a.side).actO s.p a
def str (s : St) (a : Act) : List UInt8 := (s.d a.side).actB s.p a
def act (s : St) (a : Act) : St := ⟨(s.out a).p, upd s.d a.side (s.out a).d⟩
def acts (s : St) (l : List Act) : St := l.foldl act s
theorem acts_snoc (s : St) (l : List Act) (a : Act) : s.acts (l ++ [a]) = (s.acts l).act a := by unfold acts; rw [List.foldl_append]; rfl
def new (g : Geo) (f0 f1 : List Flt) : St := ⟨Pow.new, fun i => Dsk.new g (if i then f1 else f0) Pow.new⟩
end St

/-- No operation turns the faults; at most one pending operation more. -/
theorem Dsk.begin_fl (D : Dsk) (P : Pow) (key : Int) : (D.begin_ P key).d.fl = D.fl ∧ (D.begin_ P key).d.c = D.c ∧ (D.begin_ P key).d.g = D.g ∧ (D.begin_ P key).d.key = D.key := by
  unfold Dsk.begin_
  (repeat' split) <;> exact ⟨rfl, rfl, rfl, rfl⟩
theorem Cch.put_len (x : Cch) (o : Opn) : (x.put o).l.length ≤ x.l.length + 1 := push_len _ _ _
theorem Dsk.actO_fl (D : Dsk) (P : Pow) (a : Act) : (D.actO P a).d.fl = D.fl ∧ (D.actO P a).d.c.l.length ≤ D.c.l.length + 1 := by
  obtain ⟨b1, b2, _⟩ := D.begin_fl P a.key
  unfold Dsk.actO
  split
  · unfold Dsk.readO
    split
    · unfold Dsk.readD
      split
      · exact ⟨b1, by simp only; rw [b2]; omega⟩
      · exact ⟨b1, by rw [b2]; omega⟩
    · exact ⟨b1, by simp only; rw [b2]; omega⟩
  split
  · unfold Dsk.writeO_
    split
    · unfold Dsk.writeD
      split
      · refine ⟨b1, ?_⟩
        simp only
        unfold Dsk.writeC
        rw [b2]
        split
        · omega
        split
        · omega
        split
        · simp [Cch.flush]
        · exact Cch.put_len _ _
      · exact ⟨b1, by rw [b2]; omega⟩
    · exact ⟨b1, by simp only; rw [b2]; omega⟩
  split
  · unfold Dsk.eraseO
    split
    · unfold Dsk.eraseD
      split
      · refine ⟨b1, ?_⟩
        simp only
        rw [b2]
        exact Cch.put_len _ _
      · exact ⟨b1, by rw [b2]; omega⟩
    · exact ⟨b1, by simp only; rw [b2]; omega⟩
  split
  · unfold Dsk.flushO
    split
    · exact ⟨b1, by simp [Dsk.flushD, Cch.flush]⟩
    · exact ⟨b1, by simp only; rw [b2]; omega⟩
  split
  · unfold Dsk.acqO
    simp only
    split
    · exact ⟨rfl, by simp⟩
    · exact ⟨rfl, by omega⟩
  split
  · exact ⟨rfl, by simp⟩
  split
  · unfold Dsk.restartO
    split
    · exact ⟨rfl, by simp⟩
    split
    · exact ⟨rfl, by simp⟩
    · exact ⟨rfl, by simp [Cch.cut]⟩
  split
  · exact ⟨rfl, by simp⟩
  split
  · exact ⟨rfl, by simp⟩
  · exact ⟨rfl, by simp⟩
theorem St.act_fl (s : St) (a : Act) (i : Bool) : ((s.act a).d i).fl = (s.d i).fl ∧ ((s.act a).d i).c.l.length ≤ (s.d i).c.l.length + 1 := by
  unfold St.act St.out
  simp only
  by_cases e : i = a.side
  · subst e
    rw [upd_same]
    exact Dsk.actO_fl _ _ _
  · rw [upd_other _ e]
    exact ⟨rfl, by omega⟩
theorem St.acts_fl (s : St) (l : List Act) (i : Bool) : ((s.acts l).d i).fl = (s.d i).fl ∧ ((s.acts l).d i).c.l.length ≤ (s.d i).c.l.length + l.length := by
  unfold St.acts
  induction l generalizing s with
  | nil => exact ⟨rfl, by simp⟩
  | cons a l ih =>
    rw [List.foldl_cons]
    obtain ⟨h1, h2⟩ := ih (s.act a)
    obtain ⟨k1, k2⟩ := s.act_fl a i
    refine ⟨h1.trans k1, ?_⟩
    simp only [List.length_cons]
    omega
end Go.Proofs.YtmloiifnadaaoaaGreat
/- Plain mathematics of acts: reads, writes, erasures and flushes with the key 0, without faults. -/
namespace Go.Proofs.YtmloiifnadaaoaaGreat
open Go.RowKit
set_option linter.unusedVariables false

/-- The acts that are operations, with the key 0. -/
def Act.op (a : Act) : Bool := decide (a.kind.toNat ≤ 3)
def only (l : List Act) : List Act := (l.filter Act.op).map fun a => { a with key := 0 }
theorem only_len (l : List Act) : (only l).length ≤ l.length := by unfold only; rw [List.length_map]; exact List.length_filter_le _ _
theorem only_snoc (l : List Act) (a : Act) : only (l ++ [a]) = if a.op then only l ++ [{ a with key := 0 }] else only l := by
  unfold only
  rw [List.filter_append, List.map_append]
  cases h : a.op <;> simp [h]
theorem only_op {l : List Act} {a : Act} (h : a ∈ only l) : a.op = true ∧ a.key = 0 ∧ ∃ b ∈ l, a = { b with key := 0 } := by
  unfold only at h
  obtain ⟨b, hb, rfl⟩ := List.mem_map.1 h
  obtain ⟨h1, h2⟩ := List.mem_filter.1 hb
  exact ⟨h2, rfl, b, h1, rfl⟩
/-- The same act of the first disk. -/
def Act.first (a : Act) : Act := { a with disk := 0 }
theorem Act.op_first (a : Act) : a.first.op = a.op := rfl
theorem Act.side_first (a : Act) : a.first.side = false := rfl
theorem Act.kinds {a : Act} (h : a.op = true) : a.kind = 0 ∨ a.kind = 1 ∨ a.kind = 2 ∨ a.kind = 3 := by
  unfold Act.op at h
  have h1 : a.kind.toNat ≤ 3 := by simpa using h
  have key : ∀ n : UInt8, a.kind.toNat = n.toNat → a.kind = n := fun n e => UInt8.toNat_inj.1 e
  have : a.kind.toNat = 0 ∨ a.kind.toNat = 1 ∨ a.kind.toNat = 2 ∨ a.kind.toNat = 3 := by omega
  rcases this with h | h | h | h
  · exact .inl (key 0 h)
  · exact .inr (.inl (key 1 h))
  · exact .inr (.inr (.inl (key 2 h)))
  · exact .inr (.inr (.inr (key 3 h)))

theorem Dsk.readE_cases (D : Dsk) (f : Flt) (a : Int) : D.readE f a = 2 ∨ D.readE f a = 15 ∨ D.readE f a = 0 := by
  unfold Dsk.readE
  (repeat' split) <;> simp
theorem Dsk.writeE_cases (D : Dsk) (a : Int) (b : List UInt8) : D.writeE a b = 2 ∨ D.writeE a b = 7 ∨ D.writeE a b = 0 := by
  unfold Dsk.writeE
  (repeat' split) <;> simp
theorem Dsk.eraseE_cases (D : Dsk) (a : Int) : D.eraseE a = 2 ∨ D.eraseE a = 0 := by
  unfold Dsk.eraseE Med.eraseE
  (repeat' split) <;> simp

/-- An operation that did not begin. -/
theorem Dsk.actO_stop {D : Dsk} {P : Pow} {a : Act} (ha : a.op = true) (h : (D.begin_ P a.key).e ≠ 0) : D.actO P a = ⟨(D.begin_ P a.key).e, (D.begin_ P a.key).d, (D.begin_ P a.key).p⟩ := by
  unfold Dsk.actO
  rcases Act.kinds ha with k | k | k | k <;> rw [k]
  · rw [if_pos rfl]; unfold Dsk.readO; rw [if_neg h]
  · rw [if_neg (by decide), if_pos rfl]; unfold Dsk.writeO_; rw [if_neg h]
  · rw [if_neg (by decide), if_neg (by decide), if_pos rfl]; unfold Dsk.eraseO; rw [if_neg h]
  · rw [if_neg (by decide), if_neg (by decide), if_neg (by decide), if_pos rfl]; unfold Dsk.flushO; rw [if_neg h]
/-- An operation that began: its power, its error. -/
theorem Dsk.actO_go {D : Dsk} {P : Pow} {a : Act} (ha : a.op = true) (h : (D.begin_ P a.key).e = 0) : (D.actO P a).p = (D.begin_ P a.key).p ∧ (D.actO P a).e ≠ 13 := by
  unfold Dsk.actO
  rcases Act.kinds ha with k | k | k | k <;> rw [k]
  · rw [if_pos rfl]; unfold Dsk.readO; rw [if_pos h]
    refine ⟨rfl, ?_⟩
    rcases Dsk.readE_cases (D.begin_ P a.key).d (D.begin_ P a.key).f a.at_ with e | e | e <;> simp only <;> rw [e] <;> decide
  · rw [if_neg (by decide), if_pos rfl]; unfold Dsk.writeO_; rw [if_pos h]
    refine ⟨rfl, ?_⟩
    rcases Dsk.writeE_cases (D.begin_ P a.key).d a.at_ a.bs with e | e | e <;> simp only <;> rw [e] <;> decide
  · rw [if_neg (by decide), if_neg (by decide), if_pos rfl]; unfold Dsk.eraseO; rw [if_pos h]
    refine ⟨rfl, ?_⟩
    rcases Dsk.eraseE_cases (D.begin_ P a.key).d a.at_ with e | e <;> simp only <;> rw [e] <;> decide
  · rw [if_neg (by decide), if_neg (by decide), if_neg (by decide), if_pos rfl]; unfold Dsk.flushO; rw [if_pos h]
    exact ⟨rfl, show (0 : Int) ≠ 13 by decide⟩
/-- Its disk hangs on how it began alone. -/
theorem Dsk.actO_same {D : Dsk} {P Q : Pow} {a : Act} (ha : a.op = true) (he : (D.begin_ P a.key).e = (D.begin_ Q a.key).e) (hd : (D.begin_ P a.key).d = (D.begin_ Q a.key).d) (hf : (D.begin_ P a.key).f = (D.begin_ Q a.key).f) : (D.actO P a).d = (D.actO Q a).d := by
  unfold Dsk.actO
  rcases Act.kinds ha with k | k | k | k <;> rw [k]
  · rw [if_pos rfl, if_pos rfl]; unfold Dsk.readO; rw [he, hd, hf]; split <;> rfl
  · rw [if_neg (by decide), if_pos rfl, if_neg (by decide), if_pos rfl]; unfold Dsk.writeO_; rw [he, hd, hf]; split <;> rfl
  · rw [if_neg (by decide), if_neg (by decide), if_pos rfl, if_neg (by decide), if_neg (by decide), if_pos rfl]; unfold Dsk.eraseO; rw [he, hd]; split <;> rfl
  · rw [if_neg (by decide), if_neg (by decide), if_neg (by decide), if_pos rfl, if_neg (by decide), if_neg (by decide), if_neg (by decide), if_pos rfl]; unfold Dsk.flushO; rw [he, hd]; split <;> rfl

/-- A disk that is in order: no faults, the key 0, alive, knowing of no power failure. -/
structure Dsk.Calm (D : Dsk) (g : Geo) : Prop where
  fl : D.fl = []
  key : D.key = 0
  dead : D.dead = false
  seen : D.seen = 0
  geo : D.g = g
theorem Dsk.calm_new (g : Geo) : (Dsk.new g [] Pow.new).Calm g := ⟨rfl, rfl, rfl, rfl, rfl⟩
theorem Dsk.Calm.state {D : Dsk} {g : Geo} {P : Pow} (h : D.Calm g) (ho : P.off = false) (hs : P.fails = 0) : D.state P = 0 := Dsk.state_ok h.dead ho (h.seen.trans hs.symm)
theorem Dsk.Calm.flt {D : Dsk} {g : Geo} (h : D.Calm g) : D.flt = ⟨0, 0, 0⟩ := by unfold Dsk.flt; rw [h.fl]; rfl
theorem Dsk.Calm.begin_on {D : Dsk} {g : Geo} {P : Pow} (h : D.Calm g) (ho : P.off = false) (hs : P.fails = 0) (hc : P.call.off = false) : D.begin_ P 0 = ⟨P.call, { D with count := inc D.count }, 0, ⟨0, 0, 0⟩⟩ := by
  rw [Dsk.begin_go (h.state ho hs) hc h.key.symm (by rw [h.flt]; decide) (by rw [h.flt]; decide), h.flt]
theorem Dsk.Calm.begin_off {D : Dsk} {g : Geo} {P : Pow} (h : D.Calm g) (ho : P.off = false) (hs : P.fails = 0) (hc : P.call.off = true) : D.begin_ P 0 = ⟨P.call, D, 13, ⟨0, 0, 0⟩⟩ := Dsk.begin_power (h.state ho hs) hc 0
theorem Dsk.actO_kept {D : Dsk} {P : Pow} {a : Act} (ha : a.op = true) : (D.actO P a).d.key = D.key ∧ (D.actO P a).d.seen = D.seen ∧ (D.actO P a).d.g = D.g ∧ ((D.actO P a).d.dead = D.dead ∨ D.flt.kind = 7) := by
  have hb : (D.begin_ P a.key).d.key = D.key ∧ (D.begin_ P a.key).d.seen = D.seen ∧ (D.begin_ P a.key).d.g = D.g ∧ ((D.begin_ P a.key).d.dead = D.dead ∨ D.flt.kind = 7) := by
    unfold Dsk.begin_
    (repeat' split) <;> first | exact ⟨rfl, rfl, rfl, .inl rfl⟩ | exact ⟨rfl, rfl, rfl, .inr (by assumption)⟩
  unfold Dsk.actO
  rcases Act.kinds ha with k | k | k | k <;> rw [k]
  · rw [if_pos rfl]; unfold Dsk.readO Dsk.readD; (repeat' split) <;> exact hb
  · rw [if_neg (by decide), if_pos rfl]; unfold Dsk.writeO_ Dsk.writeD; (repeat' split) <;> exact hb
  · rw [if_neg (by decide), if_neg (by decide), if_pos rfl]; unfold Dsk.eraseO Dsk.eraseD; (repeat' split) <;> exact hb
  · rw [if_neg (by decide), if_neg (by decide), if_neg (by decide), if_pos rfl]; unfold Dsk.flushO Dsk.flushD; (repeat' split) <;> exact hb
theorem Dsk.Calm.act {D : Dsk} {g : Geo} {P : Pow} {a : Act} (h : D.Calm g) (ha : a.op = true) : (D.actO P a).d.Calm g := by
  obtain ⟨h1, h2, h3, h4⟩ := Dsk.actO_kept (D := D) (P := P) ha
  exact ⟨(Dsk.actO_fl D P a).1.trans h.fl, h1.trans h.key, (h4.resolve_right (by rw [h.flt]; decide)).trans h.dead, h2.trans h.seen, h3.trans h.geo⟩
/-- One operation under a power supply that may fail, beside the same one under a power supply that does not. -/
theorem Dsk.Calm.beside {D : Dsk} {g : Geo} {P : Pow} {a : Act} (h : D.Calm g) (ha : a.op = true) (hk : a.key = 0) (ho : P.off = false) (hs : P.fails = 0) :
    (P.call.off = true ∧ D.actO P a = ⟨13, D, P.call⟩) ∨ (P.call.off = false ∧ (D.actO P a).e ≠ 13 ∧ (D.actO P a).p = P.call ∧ (D.actO P a).d = (D.actO Pow.new a).d ∧ (D.actO Pow.new a).p = Pow.new) := by
  cases hc : P.call.off with
  | true =>
    have hb := h.begin_off ho hs hc
    refine .inl ⟨rfl, ?_⟩
    rw [Dsk.actO_stop ha (by rw [hk, hb]; show (13 : Int) ≠ 0; decide), hk, hb]
  | false =>
    have hb := h.begin_on ho hs hc
    have hb0 := h.begin_on (P := Pow.new) rfl rfl rfl
    obtain ⟨h1, h2⟩ := Dsk.actO_go (D := D) (P := P) ha (by rw [hk, hb])
    obtain ⟨h3, _⟩ := Dsk.actO_go (D := D) (P := Pow.new) ha (by rw [hk, hb0])
    refine .inr ⟨rfl, h2, by rw [h1, hk, hb], Dsk.actO_same ha (by rw [hk, hb, hb0]) (by rw [hk, hb, hb0]) (by rw [hk, hb, hb0]), by rw [h3, hk, hb0]; rfl⟩
end Go.Proofs.YtmloiifnadaaoaaGreat
