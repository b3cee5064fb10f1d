/- Reading slices of structs (of bytes, of operations) as data: what lies in memory. -/
import Derived.Test.YtmloiifnadaaoaaGreatRowK
import Derived.Test.YtmloiifnadaaoaaGreatOpsH
import Derived.Deep.Slices
import Derived.Test.YtmloiifnadaaoaaGreatStpH
import Derived.Test.YtmloiifnadaaoaaGreatFltA
namespace Go.Proofs.YtmloiifnadaaoaaGreat
open Go.ChangeShapes Go.WideShapes Go.ChangeAt Go.RowKit
open Go.Joins Go.Deep
set_option linter.unusedVariables false
set_option maxRecDepth 100000

/-- All weights of a datum are within reach. -/
def Light {H : Type} (P : Program) (t : TypeId) (d : DataW H) : Prop := ∀ n ∈ d.weights P t, n ≤ reachBytes
theorem weightsAll_mem {H : Type} {P : Program} {e : TypeId} : ∀ {l : List (DataW H)} {d : DataW H}, d ∈ l → ∀ n ∈ d.weights P e, n ∈ DataW.weightsAll P e l
  | d0 :: l, d, hd, n, hn => by
    simp only [DataW.weightsAll, List.mem_append]
    rcases List.mem_cons.1 hd with rfl | hd
    · exact .inl hn
    · exact .inr (weightsAll_mem hd n hn)
theorem light_of {H : Type} {P : Program} {ts : List TypeId} {ds : List (DataW H)} (h : (DataW.weightsEach P ts ds).all (· ≤ reachBytes) = true) {j : Nat} {t : TypeId} {d : DataW H} (ht : ts[j]? = some t) (hd : ds[j]? = some d) : Light P t d := by
  intro n hn
  have := List.all_eq_true.1 h n (DataW.weights_mem_each ht hd n hn)
  simpa using this

section
variable {H : Type} {enc : TypeId × Value → H} {P : Program} {w : World} {base : Nat} {spare : Nat → Bool} {held : Bool}

/-- A slice, read: its elements, each with its cells, its reading and its weight. -/
theorem read_slice {α : Type} (R : List Value → α → Prop) {t e : TypeId} {fuel : Nat} {cs : List Value} {x : DataW H × List MemPlace} (ht : P.underlying t = some (.slice e)) (k : Nat) (hk : P.cellsOf e = k) (hk0 : 0 < k)
    (helem : ∀ n cs y, cs.length = k → DataW.trod enc P w base spare held n e cs = some y → Light P e y.1 → ∃ a, R cs a)
    (h : DataW.trod enc P w base spare held fuel t cs = some x) (hs : Light P t x.1) :
    ∃ (A : Option Addr) (l : List α) (c : Nat), cs = [.slice A l.length c] ∧ l.length * P.bytesOf e ≤ reachBytes ∧
      (l = [] ∨ ∃ g off, A = some ⟨g, off, none⟩ ∧ g < w.heap.size ∧ ∀ i a, l[i]? = some a → ∃ vs : List Value, vs.length = k ∧ (∀ j v, vs[j]? = some v → w.cell? ⟨g, off + i * k + j, none⟩ = some v) ∧ R vs a) := by
  subst hk
  rcases open_slice ht h with ⟨rfl, rfl⟩ | ⟨a, len, cap, m, n, D, Pl, rfl, hb, hl, hm, hmm, rfl, hx⟩
  · exact ⟨none, [], 0, rfl, by simp, .inl rfl⟩
  · have hlm : len ≤ m := by rw [hmm]; split <;> omega
    have key : ∀ i, i < len → ∃ q : List Value × α, w.cells? base (a.add (i * P.cellsOf e)) (P.cellsOf e) = some q.1 ∧ q.1.length = P.cellsOf e ∧ R q.1 q.2 := by
      intro i hi
      obtain ⟨cs', h1, h2⟩ := hx i (by omega)
      have hlen := (World.cells?_some h1).2.1
      obtain ⟨y, hy⟩ := helem n cs' _ hlen h2 (fun r hr => hs r (by
        simp only [DataW.weights, ht, List.mem_cons, List.mem_append]
        exact .inr (.inl (weightsAll_mem (List.mem_map.2 ⟨i, List.mem_range.2 hi, rfl⟩) r hr))))
      exact ⟨(cs', y), h1, hlen, hy⟩
    have hw : len * P.bytesOf e ≤ reachBytes := by
      have := hs ((((List.range len).map D).length + ((List.range (m - len)).map fun j => D (len + j)).length) * P.bytesOf e) (by simp [DataW.weights, ht])
      simp only [List.length_map, List.length_range] at this
      exact Nat.le_trans (Nat.mul_le_mul_right _ (by omega)) this
    cases hz : len with
    | zero => subst hz; exact ⟨some a, [], cap, rfl, by simp, .inl rfl⟩
    | succ len' =>
      have : Nonempty (List Value × α) := by obtain ⟨q, _⟩ := key 0 (by omega); exact ⟨q⟩
      have key' : ∃ f : Nat → List Value × α, ∀ i, i < len → w.cells? base (a.add (i * P.cellsOf e)) (P.cellsOf e) = some (f i).1 ∧ (f i).1.length = P.cellsOf e ∧ R (f i).1 (f i).2 := by
        haveI : Inhabited (List Value × α) := Classical.inhabited_of_nonempty this
        exact choose_lt key
      obtain ⟨f, hf⟩ := key'
      have c0 := (hf 0 (by omega)).1
      have hc0 := World.cells?_some c0
      obtain ⟨v0, hv0⟩ : ∃ v, (f 0).1[0]? = some v := ⟨_, List.getElem?_eq_getElem (by omega)⟩
      have hcell := hc0.2.2 0 hk0
      rw [hv0] at hcell
      obtain ⟨g, off, spot⟩ := a
      have hspot : spot = none := by simpa [Addr.add] using World.cell?_spot hcell
      subst hspot
      have hg : g < w.heap.size := by
        have := World.block_lt_of_cell? w _ hcell
        simpa [Addr.add] using this
      refine ⟨some ⟨g, off, none⟩, (List.range len).map (fun i => (f i).2), cap, by simp [hz], by simpa using hw, .inr ⟨g, off, rfl, hg, fun i a ha => ?_⟩⟩
      rw [List.getElem?_map] at ha
      have hi : i < len := by
        by_cases hi : i < len
        · exact hi
        · rw [List.getElem?_eq_none (by simp; omega)] at ha; cases ha
      rw [List.getElem?_range hi] at ha
      obtain rfl := Option.some.inj ha
      obtain ⟨h1, h2, h3⟩ := hf i hi
      refine ⟨(f i).1, h2, fun j v hj => ?_, h3⟩
      have hjl : j < P.cellsOf e := by rw [← h2]; exact (List.getElem?_eq_some_iff.1 hj).1
      have := (World.cells?_some h1).2.2 j hjl
      rw [hj] at this
      rw [add_add, add_plain, ← Nat.add_assoc] at this
      exact this
end

section
variable {H : Type} {enc : TypeId × Value → H} {w : World} {base : Nat} {spare : Nat → Bool} {held : Bool}
theorem cells_u8 : Tryz.prog.cellsOf 5 = 1 := by kernel_rfl
theorem bytes_u8 : Tryz.prog.bytesOf 5 = 1 := by kernel_rfl
theorem cells_op : Tryz.prog.cellsOf 115 = 3 := by kernel_rfl
theorem cells_bs : Tryz.prog.cellsOf 53 = 1 := by kernel_rfl
theorem cells_bool : Tryz.prog.cellsOf 4 = 1 := by kernel_rfl

theorem u8_back {n : Int} (h : (Lit.int .u8 n).wf = true) : ((n.toNat.toUInt8.toNat : Nat) : Int) = n := by
  have := bounds_u8 h
  rw [Nat.toUInt8, UInt8.toNat_ofNat']
  omega

theorem read_bytes {fuel : Nat} {cs : List Value} {x : DataW H × List MemPlace} (h : DataW.trod enc Tryz.prog w base spare held fuel 53 cs = some x) (hs : Light Tryz.prog 53 x.1) :
    ∃ A l c, cs = [.slice A l.length c] ∧ BytesB w w.heap.size A l ∧ l.length ≤ reachBytes := by
  obtain ⟨A, l, c, h1, h2, h3⟩ := read_slice (α := UInt8) (fun vs x => vs = [.int .u8 (x.toNat : Int)]) Tryz.underlying53 1 cells_u8 (by decide) (fun n cs y hl hy hL => by
    obtain ⟨z, rfl, _, hz⟩ := DataW.trod_int Tryz.underlying5 hy
    exact ⟨z.toNat.toUInt8, by rw [u8_back hz]⟩) h hs
  refine ⟨A, l, c, h1, h3.imp id (fun ⟨g, off, hA, hg, hc⟩ => ⟨g, off, hA, hg, fun i x hx => ?_⟩), by rw [bytes_u8, Nat.mul_one] at h2; exact h2⟩
  obtain ⟨vs, _, hv, rfl⟩ := hc i x hx
  have := hv 0 _ rfl
  simpa using this

/-- What an operation's cells say. -/
def OpIs3 (w : World) (vs : List Value) (o : Opn) : Prop := ∃ A c, vs = [.bool o.er, .int .i64 o.at_, .slice A o.bs.length c] ∧ BytesB w w.heap.size A o.bs ∧ o.bs.length ≤ reachBytes
theorem read_op {fuel : Nat} {cs : List Value} {x : DataW H × List MemPlace} (h : DataW.trod enc Tryz.prog w base spare held fuel 115 cs = some x) (hs : Light Tryz.prog 115 x.1) : ∃ o, OpIs3 w cs o := by
  obtain ⟨xs, n, _, rfl, hl, hlen, hf⟩ := DataW.trod_struct Tryz.underlying115 h
  rw [cells_op] at hl
  have hlen' : xs.length = 3 := hlen
  match cs, hl with
  | [c0, c1, c2], _ =>
    match xs, hlen' with
    | [y0, y1, y2], _ =>
      have g0 : DataW.trod enc Tryz.prog w base spare held n 4 (List.take (Tryz.prog.cellsOf 4) [c0, c1, c2]) = some y0 := hf 0 _ rfl
      have g1 : DataW.trod enc Tryz.prog w base spare held n 3 (List.take (Tryz.prog.cellsOf 3) [c1, c2]) = some y1 := hf 1 _ rfl
      have g2 : DataW.trod enc Tryz.prog w base spare held n 53 (List.take (Tryz.prog.cellsOf 53) [c2]) = some y2 := hf 2 _ rfl
      rw [cells_bool] at g0
      rw [cells_int] at g1
      rw [cells_bs] at g2
      obtain ⟨b, h0, _⟩ := DataW.trod_bool Tryz.underlying4 g0
      obtain ⟨a, h1, _⟩ := DataW.trod_int Tryz.underlying3 g1
      obtain ⟨A, l, c, h2, h3, h4⟩ := read_bytes g2 (fun r hr => hs r (by
        simp only [DataW.weights, Tryz.underlying115]
        exact DataW.weights_mem_each (j := 2) rfl rfl r hr))
      simp at h0 h1 h2
      exact ⟨⟨b, a, l⟩, A, c, by rw [h0, h1, h2], h3, h4⟩
theorem read_ops {fuel : Nat} {cs : List Value} {x : DataW H × List MemPlace} (h : DataW.trod enc Tryz.prog w base spare held fuel 88 cs = some x) (hs : Light Tryz.prog 88 x.1) :
    ∃ (A : Option Addr) (l : List Opn) (c : Nat), cs = [.slice A l.length c] ∧ OpsB w w.heap.size A l ∧ l.length ≤ reachBytes ∧ ∀ o ∈ l, o.bs.length ≤ reachBytes := by
  obtain ⟨A, l, c, h1, h2, h3⟩ := read_slice (α := Opn) (OpIs3 w) Tryz.underlying88 3 cells_op (by decide) (fun n cs y hl hy hL => read_op hy hL) h hs
  have hb : Tryz.prog.bytesOf 115 = 40 := by kernel_rfl
  rw [hb] at h2
  have h5 : OpsB w w.heap.size A l := by
    rcases h3 with h3 | ⟨g, off, hA, hg, hc⟩
    · exact .inl h3
    · refine .inr ⟨g, off, hA, hg, fun i o ho => ?_⟩
      obtain ⟨vs, _, hv, A', c', rfl, h4, h5⟩ := hc i o ho
      exact ⟨A', c', hv 0 _ rfl, hv 1 _ rfl, hv 2 _ rfl, h4⟩
  refine ⟨A, l, c, h1, h5, by omega, fun o ho => ?_⟩
  rcases h3 with rfl | ⟨g, off, _, _, hc⟩
  · cases ho
  · obtain ⟨i, hi, rfl⟩ := List.getElem_of_mem ho
    obtain ⟨vs, _, hv, A', c', _, _, h5⟩ := hc i _ (List.getElem?_eq_getElem hi)
    exact h5

theorem open_bytes {v : Value} {d : DataW H} {p : List MemPlace} {r : Reach} {b0 : Nat} (hv : Value.okWide Tryz.prog w r b0 53 v) (h : DataW.Trod enc Tryz.prog w base spare held 53 v d p) (hs : Light Tryz.prog 53 d) :
    ∃ (A : Option Addr) (l : List UInt8) (c : Nat), v = .slice A l.length c ∧ BytesB w w.heap.size A l ∧ l.length ≤ reachBytes := by
  obtain ⟨a, len, cap, rfl⟩ := okWide_slice Tryz.underlying53 hv
  obtain ⟨fuel, hf⟩ := h
  obtain ⟨A, l, c, h1, h2, h3⟩ := read_bytes hf hs
  exact ⟨A, l, c, by simpa [Value.cells] using h1, h2, h3⟩
theorem open_ops {v : Value} {d : DataW H} {p : List MemPlace} {r : Reach} {b0 : Nat} (hv : Value.okWide Tryz.prog w r b0 88 v) (h : DataW.Trod enc Tryz.prog w base spare held 88 v d p) (hs : Light Tryz.prog 88 d) :
    ∃ (A : Option Addr) (l : List Opn) (c : Nat), v = .slice A l.length c ∧ OpsB w w.heap.size A l ∧ l.length ≤ reachBytes ∧ ∀ o ∈ l, o.bs.length ≤ reachBytes := by
  obtain ⟨a, len, cap, rfl⟩ := okWide_slice Tryz.underlying88 hv
  obtain ⟨fuel, hf⟩ := h
  obtain ⟨A, l, c, h1, h2, h3⟩ := read_ops hf hs
  exact ⟨A, l, c, by simpa [Value.cells] using h1, h2, h3⟩
theorem open_op {v : Value} {d : DataW H} {p : List MemPlace} {r : Reach} {b0 : Nat} (hv : Value.okWide Tryz.prog w r b0 115 v) (h : DataW.Trod enc Tryz.prog w base spare held 115 v d p) (hs : Light Tryz.prog 115 d) :
    ∃ (o : Opn) (A : Option Addr) (c : Nat), v = .agg #[.bool o.er, .int .i64 o.at_, .slice A o.bs.length c] ∧ BytesB w w.heap.size A o.bs ∧ o.bs.length ≤ reachBytes := by
  have he := agg_of Tryz.underlying115 hv
  obtain ⟨fuel, hf⟩ := h
  obtain ⟨o, A, c, hcs, hw, hl⟩ := read_op hf hs
  exact ⟨o, A, c, agg_eq he hcs, hw, hl⟩
theorem reach_is : reachBytes = 140737488351232 := rfl
end
end Go.Proofs.YtmloiifnadaaoaaGreat
/- Reading lists of steps, faults, acts, and cases, as data. -/
namespace Go.Proofs.YtmloiifnadaaoaaGreat
open Go.ChangeShapes Go.WideShapes Go.ChangeAt Go.RowKit
open Go.Joins Go.Deep
set_option linter.unusedVariables false
set_option maxRecDepth 100000
section
variable {H : Type} {enc : TypeId × Value → H} {w : World} {base : Nat} {spare : Nat → Bool} {held : Bool}
theorem cells_u8' : Tryz.prog.cellsOf 5 = 1 := by kernel_rfl

/-- What a step's cells say. -/
def StpIs (w : World) (vs : List Value) (s : Stp) : Prop := ∃ A c, vs = [.int .u8 (s.kind.toNat : Int), .bool s.op.er, .int .i64 s.op.at_, .slice A s.op.bs.length c, .int .i64 s.keep] ∧ BytesB w w.heap.size A s.op.bs ∧ s.op.bs.length ≤ reachBytes
theorem cells_flt : Tryz.prog.cellsOf 64 = 3 := by kernel_rfl
theorem read_flt {fuel : Nat} {cs : List Value} {x : DataW H × List MemPlace} (h : DataW.trod enc Tryz.prog w base spare held fuel 64 cs = some x) : ∃ f : Flt, cs = [.int .i64 f.at_, .int .i64 f.kind, .int .i64 f.to] := by
  obtain ⟨xs, n, _, rfl, hl, hlen, hf⟩ := DataW.trod_struct Tryz.underlying64 h
  rw [cells_flt] at hl
  have hlen' : xs.length = 3 := hlen
  match cs, hl with
  | [c0, c1, c2], _ =>
    obtain ⟨a0, rfl, h0⟩ := cells1 Tryz.underlying3 cells_int (some_at hlen' (by decide)) (hf 0 _ rfl)
    obtain ⟨a1, rfl, h1⟩ := cells1 Tryz.underlying3 cells_int (some_at hlen' (by decide)) (hf 1 _ rfl)
    obtain ⟨a2, rfl, h2⟩ := cells1 Tryz.underlying3 cells_int (some_at hlen' (by decide)) (hf 2 _ rfl)
    exact ⟨⟨a0, a1, a2⟩, rfl⟩
theorem read_flts {fuel : Nat} {cs : List Value} {x : DataW H × List MemPlace} (h : DataW.trod enc Tryz.prog w base spare held fuel 24 cs = some x) (hs : Light Tryz.prog 24 x.1) :
    ∃ (A : Option Addr) (l : List Flt) (c : Nat), cs = [.slice A l.length c] ∧ FltsRd w A l ∧ l.length * 24 ≤ reachBytes := by
  obtain ⟨A, l, c, h1, h2, h3⟩ := read_slice (α := Flt) (fun vs f => vs = [.int .i64 f.at_, .int .i64 f.kind, .int .i64 f.to]) Tryz.underlying24 3 cells_flt (by decide) (fun n cs y hl hy hL => read_flt hy) h hs
  have hb : Tryz.prog.bytesOf 64 = 24 := by kernel_rfl
  rw [hb] at h2
  refine ⟨A, l, c, h1, h3.imp id (fun ⟨g, off, hA, hg, hc⟩ => ⟨g, off, hA, hg, fun i f hf => ?_⟩), h2⟩
  obtain ⟨vs, _, hv, rfl⟩ := hc i f hf
  exact ⟨hv 0 _ rfl, hv 1 _ rfl, hv 2 _ rfl⟩
theorem open_flts {v : Value} {d : DataW H} {p : List MemPlace} {r : Reach} {b0 : Nat} (hv : Value.okWide Tryz.prog w r b0 24 v) (h : DataW.Trod enc Tryz.prog w base spare held 24 v d p) (hs : Light Tryz.prog 24 d) :
    ∃ (A : Option Addr) (l : List Flt) (c : Nat), v = .slice A l.length c ∧ FltsRd w A l ∧ l.length * 24 ≤ reachBytes := by
  obtain ⟨a, len, cap, rfl⟩ := okWide_slice Tryz.underlying24 hv
  obtain ⟨fuel, hf⟩ := h
  obtain ⟨A, l, c, h1, h2, h3⟩ := read_flts hf hs
  exact ⟨A, l, c, by simpa [Value.cells] using h1, h2, h3⟩
end
end Go.Proofs.YtmloiifnadaaoaaGreat
/- Reading acts on disks, and cases, as data. -/
namespace Go.Proofs.YtmloiifnadaaoaaGreat
open Go.ChangeShapes Go.WideShapes Go.ChangeAt Go.RowKit
open Go.Joins Go.Deep
set_option linter.unusedVariables false
set_option maxRecDepth 100000
section
variable {H : Type} {enc : TypeId × Value → H} {w : World} {base : Nat} {spare : Nat → Bool} {held : Bool}
theorem cells_act : Tryz.prog.cellsOf 55 = 6 := by kernel_rfl
theorem cells_u64 : Tryz.prog.cellsOf 44 = 1 := by kernel_rfl
theorem cells_case : Tryz.prog.cellsOf 28 = 8 := by kernel_rfl
theorem cells_flts : Tryz.prog.cellsOf 24 = 1 := by kernel_rfl
theorem cells_flts2 : Tryz.prog.cellsOf 25 = 2 := by kernel_rfl
theorem cells_acts : Tryz.prog.cellsOf 26 = 1 := by kernel_rfl

theorem slice_cap {t e : TypeId} {fuel : Nat} {A : Option Addr} {n c : Nat} {x : DataW H × List MemPlace} (ht : Tryz.prog.underlying t = some (.slice e)) (h : DataW.trod enc Tryz.prog w base spare held fuel t [.slice A n c] = some x) : n ≤ c := by
  rcases open_slice ht h with ⟨h1, _⟩ | ⟨a, len, cap, m, n', D, Pl, h1, hb, hl, _⟩
  · simp at h1; omega
  · simp at h1; omega
/-- What an act's cells say. -/
def ActIs (w : World) (vs : List Value) (a : Act) : Prop := ∃ A c, vs = [.int .u8 (a.disk.toNat : Int), .int .u8 (a.kind.toNat : Int), .int .u64 a.key, .int .i64 a.at_, .slice A a.bs.length c, .bool a.force] ∧ BytesB w w.heap.size A a.bs ∧ a.bs.length ≤ reachBytes ∧ a.bs.length ≤ c
theorem read_act {fuel : Nat} {cs : List Value} {x : DataW H × List MemPlace} (h : DataW.trod enc Tryz.prog w base spare held fuel 55 cs = some x) (hs : Light Tryz.prog 55 x.1) : ∃ a, ActIs w cs a := by
  obtain ⟨xs, n, _, rfl, hl, hlen, hf⟩ := DataW.trod_struct Tryz.underlying55 h
  rw [cells_act] at hl
  have hlen' : xs.length = 6 := hlen
  match cs, hl with
  | [c0, c1, c2, c3, c4, c5], _ =>
    match xs, hlen' with
    | [y0, y1, y2, y3, y4, y5], _ =>
      have g0 : DataW.trod enc Tryz.prog w base spare held n 5 (List.take (Tryz.prog.cellsOf 5) [c0, c1, c2, c3, c4, c5]) = some y0 := hf 0 _ rfl
      have g1 : DataW.trod enc Tryz.prog w base spare held n 5 (List.take (Tryz.prog.cellsOf 5) [c1, c2, c3, c4, c5]) = some y1 := hf 1 _ rfl
      have g2 : DataW.trod enc Tryz.prog w base spare held n 44 (List.take (Tryz.prog.cellsOf 44) [c2, c3, c4, c5]) = some y2 := hf 2 _ rfl
      have g3 : DataW.trod enc Tryz.prog w base spare held n 3 (List.take (Tryz.prog.cellsOf 3) [c3, c4, c5]) = some y3 := hf 3 _ rfl
      have g4 : DataW.trod enc Tryz.prog w base spare held n 53 (List.take (Tryz.prog.cellsOf 53) [c4, c5]) = some y4 := hf 4 _ rfl
      have g5 : DataW.trod enc Tryz.prog w base spare held n 4 (List.take (Tryz.prog.cellsOf 4) [c5]) = some y5 := hf 5 _ rfl
      rw [cells_u8'] at g0 g1
      rw [cells_u64] at g2
      rw [cells_int] at g3
      rw [cells_bs] at g4
      rw [cells_bool] at g5
      obtain ⟨b0, h0, _, hb0⟩ := DataW.trod_int Tryz.underlying5 g0
      obtain ⟨b1, h1, _, hb1⟩ := DataW.trod_int Tryz.underlying5 g1
      obtain ⟨b2, h2, _⟩ := DataW.trod_int Tryz.underlying44 g2
      obtain ⟨b3, h3, _⟩ := DataW.trod_int Tryz.underlying3 g3
      obtain ⟨A, l, c, h4, h6, h7⟩ := read_bytes g4 (fun r hr => hs r (by
        simp only [DataW.weights, Tryz.underlying55]
        exact DataW.weights_mem_each (j := 4) rfl rfl r hr))
      obtain ⟨b5, h5, _⟩ := DataW.trod_bool Tryz.underlying4 g5
      have h8 : l.length ≤ c := by
        have g4' : DataW.trod enc Tryz.prog w base spare held n 53 [c4] = some y4 := g4
        have h9 : [c4] = [.slice A l.length c] := h4
        rw [h9] at g4'
        exact slice_cap Tryz.underlying53 g4'
      simp at h0 h1 h2 h3 h4 h5
      exact ⟨⟨b0.toNat.toUInt8, b1.toNat.toUInt8, b2, b3, l, b5⟩, A, c, by rw [u8_back hb0, u8_back hb1, h0, h1, h2, h3, h4, h5], h6, h7, h8⟩
theorem read_acts {fuel : Nat} {cs : List Value} {x : DataW H × List MemPlace} (h : DataW.trod enc Tryz.prog w base spare held fuel 26 cs = some x) (hs : Light Tryz.prog 26 x.1) :
    ∃ (A : Option Addr) (l : List Act) (c : Nat), cs = [.slice A l.length c] ∧ ActsB w w.heap.size A l ∧ l.length ≤ reachBytes := by
  obtain ⟨A, l, c, h1, h2, h3⟩ := read_slice (α := Act) (ActIs w) Tryz.underlying26 6 cells_act (by decide) (fun n cs y hl hy hL => read_act hy hL) h hs
  have hb : Tryz.prog.bytesOf 55 = 56 := by kernel_rfl
  rw [hb] at h2
  have h5 : ActsB w w.heap.size A l := by
    rcases h3 with h3 | ⟨g, off, hA, hg, hc⟩
    · exact .inl h3
    · refine .inr ⟨g, off, hA, hg, fun i o ho => ?_⟩
      obtain ⟨vs, _, hv, A', c', rfl, h4, h5, h6⟩ := hc i o ho
      exact ⟨A', c', hv 0 _ rfl, hv 1 _ rfl, hv 2 _ rfl, hv 3 _ rfl, hv 4 _ rfl, hv 5 _ rfl, h4, h6⟩
  exact ⟨A, l, c, h1, h5, by omega⟩
theorem cells1s {n : Nat} {t e : TypeId} {c : Value} {rest : List Value} {y : DataW H × List MemPlace} (ht : Tryz.prog.underlying t = some (.slice e)) (hk : Tryz.prog.cellsOf t = 1) (h : DataW.trod enc Tryz.prog w base spare held n t (List.take (Tryz.prog.cellsOf t) (c :: rest)) = some y) : DataW.trod enc Tryz.prog w base spare held n t [c] = some y := by
  rw [hk] at h
  exact h
/-- A case by value. -/
theorem open_case {v : Value} {d : DataW H} {p : List MemPlace} {r : Reach} {b0 : Nat} (hv : Value.okWide Tryz.prog w r b0 28 v) (h : DataW.Trod enc Tryz.prog w base spare held 28 v d p) (hs : Light Tryz.prog 28 d) :
    ∃ (g0 g1 g2 g3 g4 : Int) (A0 : Option Addr) (l0 : List Flt) (c0 : Nat) (A1 : Option Addr) (l1 : List Flt) (c1 : Nat) (A2 : Option Addr) (l2 : List Act) (c2 : Nat), v = .agg #[.int .i64 g0, .int .i64 g1, .int .i64 g2, .int .i64 g3, .int .i64 g4, .slice A0 l0.length c0, .slice A1 l1.length c1, .slice A2 l2.length c2] ∧
      FltsRd w A0 l0 ∧ l0.length * 24 ≤ reachBytes ∧ FltsRd w A1 l1 ∧ l1.length * 24 ≤ reachBytes ∧ ActsB w w.heap.size A2 l2 ∧ l2.length ≤ reachBytes := by
  have he := agg_of Tryz.underlying28 hv
  obtain ⟨fuel, h9⟩ := h
  obtain ⟨xs, n, _, hdp, hl, hlen, hf⟩ := DataW.trod_struct Tryz.underlying28 h9
  obtain ⟨rfl, rfl⟩ := Prod.mk.inj hdp
  rw [cells_case] at hl
  have hlen' : xs.length = 3 := hlen
  obtain ⟨cs, hcs⟩ : ∃ cs, v.cells.toList = cs := ⟨_, rfl⟩
  rw [hcs] at hl hf
  clear h9
  match cs, hl with
  | [x0, x1, x2, x3, x4, x5, x6, x7], _ =>
    match xs, hlen' with
    | [y0, y1, y2], _ =>
      have k0 : DataW.trod enc Tryz.prog w base spare held n 23 (List.take (Tryz.prog.cellsOf 23) [x0, x1, x2, x3, x4, x5, x6, x7]) = some y0 := hf 0 _ rfl
      have k1 : DataW.trod enc Tryz.prog w base spare held n 25 (List.take (Tryz.prog.cellsOf 25) [x5, x6, x7]) = some y1 := hf 1 _ rfl
      have k2 : DataW.trod enc Tryz.prog w base spare held n 26 (List.take (Tryz.prog.cellsOf 26) [x7]) = some y2 := hf 2 _ rfl
      rw [cells_geo] at k0
      rw [cells_flts2] at k1
      rw [cells_acts] at k2
      obtain ⟨a0, a1, a2, a3, a4, hg, _⟩ := read_geo k0
      obtain ⟨zs, m, _, hy1, hzl, hzlen, hz⟩ := DataW.trod_array (show Tryz.prog.underlying 25 = some (.array 2 24) from Tryz.underlying25) k1
      have hz0 := hz 0 (by decide)
      have hz1 := hz 1 (by decide)
      rw [cells_flts] at hz0 hz1
      match zs, hzlen, hz0, hz1 with
      | [z0, z1], _, hz0, hz1 =>
        have L1 : Light Tryz.prog 25 y1.1 := fun r hr => hs r (by
          simp only [DataW.weights, Tryz.underlying28]
          exact DataW.weights_mem_each (j := 1) rfl rfl r hr)
        have hy2 := congrArg Prod.fst hy1
        simp only at hy2
        rw [hy2] at L1
        have W0 : Light Tryz.prog 24 z0.1 := fun r hr => L1 r (by
          simp only [DataW.weights, Tryz.underlying25]
          exact weightsAll_mem (by simp) r hr)
        have W1 : Light Tryz.prog 24 z1.1 := fun r hr => L1 r (by
          simp only [DataW.weights, Tryz.underlying25]
          exact weightsAll_mem (by simp) r hr)
        obtain ⟨A0, l0, c0, e0, r0, s0⟩ := read_flts (cs := [x5]) hz0 W0
        obtain ⟨A1, l1, c1, e1, r1, s1⟩ := read_flts (cs := [x6]) hz1 W1
        obtain ⟨A2, l2, c2, e2, r2, s2⟩ := read_acts (cs := [x7]) k2 (fun r hr => hs r (by
          simp only [DataW.weights, Tryz.underlying28]
          exact DataW.weights_mem_each (j := 2) rfl rfl r hr))
        simp at hg e0 e1 e2
        refine ⟨a0, a1, a2, a3, a4, A0, l0, c0, A1, l1, c1, A2, l2, c2, ?_, r0, s0, r1, s1, r2, s2⟩
        rw [agg_eq he hcs, hg.1, hg.2.1, hg.2.2.1, hg.2.2.2.1, hg.2.2.2.2, e0, e1, e2]
end
end Go.Proofs.YtmloiifnadaaoaaGreat
