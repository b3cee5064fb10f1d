/- Reading slices of structs (of bytes, of operations) as data: what lies in memory. -/
import Derived.Test.YtmloiifnadaaoaaRowBase
import Derived.Test.YtmloiifnadaaoaaOpsH
import Derived.Deep.Slices
namespace Go.Proofs.Ytmloiifnadaaoaa
open Go.ChangeShapes Go.WideShapes Go.ChangeAt Go.RowKit
open Go.Joins Go.Deep
set_option linter.unusedVariables false
set_option maxRecDepth 100000

/-- All weights of a datum are within reach. -/
def Light {H : Type} (P : Program) (t : TypeId) (d : DataW H) : Prop := ∀ n ∈ d.weights P t, n ≤ reachBytes
theorem weightsAll_mem {H : Type} {P : Program} {e : TypeId} : ∀ {l : List (DataW H)} {d : DataW H}, d ∈ l → ∀ n ∈ d.weights P e, n ∈ DataW.weightsAll P e l
  | d0 :: l, d, hd, n, hn => by
    simp only [DataW.weightsAll, List.mem_append]
    rcases List.mem_cons.1 hd with rfl | hd
    · exact .inl hn
    · exact .inr (weightsAll_mem hd n hn)
theorem light_of {H : Type} {P : Program} {ts : List TypeId} {ds : List (DataW H)} (h : (DataW.weightsEach P ts ds).all (· ≤ reachBytes) = true) {j : Nat} {t : TypeId} {d : DataW H} (ht : ts[j]? = some t) (hd : ds[j]? = some d) : Light P t d := by
  intro n hn
  have := List.all_eq_true.1 h n (DataW.weights_mem_each ht hd n hn)
  simpa using this

section
variable {H : Type} {enc : TypeId × Value → H} {P : Program} {w : World} {base : Nat} {spare : Nat → Bool} {held : Bool}

/-- A slice, read: its elements, each with its cells, its reading and its weight. -/
theorem read_slice {α : Type} (R : List Value → α → Prop) {t e : TypeId} {fuel : Nat} {cs : List Value} {x : DataW H × List MemPlace} (ht : P.underlying t = some (.slice e)) (k : Nat) (hk : P.cellsOf e = k) (hk0 : 0 < k)
    (helem : ∀ n cs y, cs.length = k → DataW.trod enc P w base spare held n e cs = some y → Light P e y.1 → ∃ a, R cs a)
    (h : DataW.trod enc P w base spare held fuel t cs = some x) (hs : Light P t x.1) :
    ∃ (A : Option Addr) (l : List α) (c : Nat), cs = [.slice A l.length c] ∧ l.length * P.bytesOf e ≤ reachBytes ∧
      (l = [] ∨ ∃ g off, A = some ⟨g, off, none⟩ ∧ g < w.heap.size ∧ ∀ i a, l[i]? = some a → ∃ vs : List Value, vs.length = k ∧ (∀ j v, vs[j]? = some v → w.cell? ⟨g, off + i * k + j, none⟩ = some v) ∧ R vs a) := by
  subst hk
  rcases open_slice ht h with ⟨rfl, rfl⟩ | ⟨a, len, cap, m, n, D, Pl, rfl, hb, hl, hm, hmm, rfl, hx⟩
  · exact ⟨none, [], 0, rfl, by simp, .inl rfl⟩
  · have hlm : len ≤ m := by rw [hmm]; split <;> omega
    have key : ∀ i, i < len → ∃ q : List Value × α, w.cells? base (a.add (i * P.cellsOf e)) (P.cellsOf e) = some q.1 ∧ q.1.length = P.cellsOf e ∧ R q.1 q.2 := by
      intro i hi
      obtain ⟨cs', h1, h2⟩ := hx i (by omega)
      have hlen := (World.cells?_some h1).2.1
      obtain ⟨y, hy⟩ := helem n cs' _ hlen h2 (fun r hr => hs r (by
        simp only [DataW.weights, ht, List.mem_cons, List.mem_append]
        exact .inr (.inl (weightsAll_mem (List.mem_map.2 ⟨i, List.mem_range.2 hi, rfl⟩) r hr))))
      exact ⟨(cs', y), h1, hlen, hy⟩
    have hw : len * P.bytesOf e ≤ reachBytes := by
      have := hs ((((List.range len).map D).length + ((List.range (m - len)).map fun j => D (len + j)).length) * P.bytesOf e) (by simp [DataW.weights, ht])
      simp only [List.length_map, List.length_range] at this
      exact Nat.le_trans (Nat.mul_le_mul_right _ (by omega)) this
    cases hz : len with
    | zero => subst hz; exact ⟨some a, [], cap, rfl, by simp, .inl rfl⟩
    | succ len' =>
      have : Nonempty (List Value × α) := by obtain ⟨q, _⟩ := key 0 (by omega); exact ⟨q⟩
      have key' : ∃ f : Nat → List Value × α, ∀ i, i < len → w.cells? base (a.add (i * P.cellsOf e)) (P.cellsOf e) = some (f i).1 ∧ (f i).1.length = P.cellsOf e ∧ R (f i).1 (f i).2 := by
        haveI : Inhabited (List Value × α) := Classical.inhabited_of_nonempty this
        exact choose_lt key
      obtain ⟨f, hf⟩ := key'
      have c0 := (hf 0 (by omega)).1
      have hc0 := World.cells?_some c0
      obtain ⟨v0, hv0⟩ : ∃ v, (f 0).1[0]? = some v := ⟨_, List.getElem?_eq_getElem (by omega)⟩
      have hcell := hc0.2.2 0 hk0
      rw [hv0] at hcell
      obtain ⟨g, off, spot⟩ := a
      have hspot : spot = none := by simpa [Addr.add] using World.cell?_spot hcell
      subst hspot
      have hg : g < w.heap.size := by
        have := World.block_lt_of_cell? w _ hcell
        simpa [Addr.add] using this
      refine ⟨some ⟨g, off, none⟩, (List.range len).map (fun i => (f i).2), cap, by simp [hz], by simpa using hw, .inr ⟨g, off, rfl, hg, fun i a ha => ?_⟩⟩
      rw [List.getElem?_map] at ha
      have hi : i < len := by
        by_cases hi : i < len
        · exact hi
        · rw [List.getElem?_eq_none (by simp; omega)] at ha; cases ha
      rw [List.getElem?_range hi] at ha
      obtain rfl := Option.some.inj ha
      obtain ⟨h1, h2, h3⟩ := hf i hi
      refine ⟨(f i).1, h2, fun j v hj => ?_, h3⟩
      have hjl : j < P.cellsOf e := by rw [← h2]; exact (List.getElem?_eq_some_iff.1 hj).1
      have := (World.cells?_some h1).2.2 j hjl
      rw [hj] at this
      rw [add_add, add_plain, ← Nat.add_assoc] at this
      exact this
end

section
variable {H : Type} {enc : TypeId × Value → H} {w : World} {base : Nat} {spare : Nat → Bool} {held : Bool}
theorem cells_u8 : Try.prog.cellsOf 5 = 1 := by kernel_rfl
theorem bytes_u8 : Try.prog.bytesOf 5 = 1 := by kernel_rfl
theorem cells_op : Try.prog.cellsOf 50 = 3 := by kernel_rfl
theorem cells_bs : Try.prog.cellsOf 38 = 1 := by kernel_rfl
theorem cells_bool : Try.prog.cellsOf 4 = 1 := by kernel_rfl

theorem u8_back {n : Int} (h : (Lit.int .u8 n).wf = true) : ((n.toNat.toUInt8.toNat : Nat) : Int) = n := by
  have := bounds_u8 h
  rw [Nat.toUInt8, UInt8.toNat_ofNat']
  omega

theorem read_bytes {fuel : Nat} {cs : List Value} {x : DataW H × List MemPlace} (h : DataW.trod enc Try.prog w base spare held fuel 38 cs = some x) (hs : Light Try.prog 38 x.1) :
    ∃ A l c, cs = [.slice A l.length c] ∧ BytesB w w.heap.size A l ∧ l.length ≤ reachBytes := by
  obtain ⟨A, l, c, h1, h2, h3⟩ := read_slice (α := UInt8) (fun vs x => vs = [.int .u8 (x.toNat : Int)]) Try.underlying38 1 cells_u8 (by decide) (fun n cs y hl hy hL => by
    obtain ⟨z, rfl, _, hz⟩ := DataW.trod_int Try.underlying5 hy
    exact ⟨z.toNat.toUInt8, by rw [u8_back hz]⟩) h hs
  refine ⟨A, l, c, h1, h3.imp id (fun ⟨g, off, hA, hg, hc⟩ => ⟨g, off, hA, hg, fun i x hx => ?_⟩), by rw [bytes_u8, Nat.mul_one] at h2; exact h2⟩
  obtain ⟨vs, _, hv, rfl⟩ := hc i x hx
  have := hv 0 _ rfl
  simpa using this

/-- What an operation's cells say. -/
def OpIs3 (w : World) (vs : List Value) (o : Opn) : Prop := ∃ A c, vs = [.bool o.er, .int .i64 o.at_, .slice A o.bs.length c] ∧ BytesB w w.heap.size A o.bs ∧ o.bs.length ≤ reachBytes
theorem read_op {fuel : Nat} {cs : List Value} {x : DataW H × List MemPlace} (h : DataW.trod enc Try.prog w base spare held fuel 50 cs = some x) (hs : Light Try.prog 50 x.1) : ∃ o, OpIs3 w cs o := by
  obtain ⟨xs, n, _, rfl, hl, hlen, hf⟩ := DataW.trod_struct Try.underlying50 h
  rw [cells_op] at hl
  have hlen' : xs.length = 3 := hlen
  match cs, hl with
  | [c0, c1, c2], _ =>
    match xs, hlen' with
    | [y0, y1, y2], _ =>
      have g0 : DataW.trod enc Try.prog w base spare held n 4 (List.take (Try.prog.cellsOf 4) [c0, c1, c2]) = some y0 := hf 0 _ rfl
      have g1 : DataW.trod enc Try.prog w base spare held n 3 (List.take (Try.prog.cellsOf 3) [c1, c2]) = some y1 := hf 1 _ rfl
      have g2 : DataW.trod enc Try.prog w base spare held n 38 (List.take (Try.prog.cellsOf 38) [c2]) = some y2 := hf 2 _ rfl
      rw [cells_bool] at g0
      rw [cells_int] at g1
      rw [cells_bs] at g2
      obtain ⟨b, h0, _⟩ := DataW.trod_bool Try.underlying4 g0
      obtain ⟨a, h1, _⟩ := DataW.trod_int Try.underlying3 g1
      obtain ⟨A, l, c, h2, h3, h4⟩ := read_bytes g2 (fun r hr => hs r (by
        simp only [DataW.weights, Try.underlying50]
        exact DataW.weights_mem_each (j := 2) rfl rfl r hr))
      simp at h0 h1 h2
      exact ⟨⟨b, a, l⟩, A, c, by rw [h0, h1, h2], h3, h4⟩
theorem read_ops {fuel : Nat} {cs : List Value} {x : DataW H × List MemPlace} (h : DataW.trod enc Try.prog w base spare held fuel 46 cs = some x) (hs : Light Try.prog 46 x.1) :
    ∃ (A : Option Addr) (l : List Opn) (c : Nat), cs = [.slice A l.length c] ∧ OpsB w w.heap.size A l ∧ l.length ≤ reachBytes ∧ ∀ o ∈ l, o.bs.length ≤ reachBytes := by
  obtain ⟨A, l, c, h1, h2, h3⟩ := read_slice (α := Opn) (OpIs3 w) Try.underlying46 3 cells_op (by decide) (fun n cs y hl hy hL => read_op hy hL) h hs
  have hb : Try.prog.bytesOf 50 = 40 := by kernel_rfl
  rw [hb] at h2
  have h5 : OpsB w w.heap.size A l := by
    rcases h3 with h3 | ⟨g, off, hA, hg, hc⟩
    · exact .inl h3
    · refine .inr ⟨g, off, hA, hg, fun i o ho => ?_⟩
      obtain ⟨vs, _, hv, A', c', rfl, h4, h5⟩ := hc i o ho
      exact ⟨A', c', hv 0 _ rfl, hv 1 _ rfl, hv 2 _ rfl, h4⟩
  refine ⟨A, l, c, h1, h5, by omega, fun o ho => ?_⟩
  rcases h3 with rfl | ⟨g, off, _, _, hc⟩
  · cases ho
  · obtain ⟨i, hi, rfl⟩ := List.getElem_of_mem ho
    obtain ⟨vs, _, hv, A', c', _, _, h5⟩ := hc i _ (List.getElem?_eq_getElem hi)
    exact h5

theorem open_bytes {v : Value} {d : DataW H} {p : List MemPlace} {r : Reach} {b0 : Nat} (hv : Value.okWide Try.prog w r b0 38 v) (h : DataW.Trod enc Try.prog w base spare held 38 v d p) (hs : Light Try.prog 38 d) :
    ∃ (A : Option Addr) (l : List UInt8) (c : Nat), v = .slice A l.length c ∧ BytesB w w.heap.size A l ∧ l.length ≤ reachBytes := by
  obtain ⟨a, len, cap, rfl⟩ := okWide_slice Try.underlying38 hv
  obtain ⟨fuel, hf⟩ := h
  obtain ⟨A, l, c, h1, h2, h3⟩ := read_bytes hf hs
  exact ⟨A, l, c, by simpa [Value.cells] using h1, h2, h3⟩
theorem open_ops {v : Value} {d : DataW H} {p : List MemPlace} {r : Reach} {b0 : Nat} (hv : Value.okWide Try.prog w r b0 46 v) (h : DataW.Trod enc Try.prog w base spare held 46 v d p) (hs : Light Try.prog 46 d) :
    ∃ (A : Option Addr) (l : List Opn) (c : Nat), v = .slice A l.length c ∧ OpsB w w.heap.size A l ∧ l.length ≤ reachBytes ∧ ∀ o ∈ l, o.bs.length ≤ reachBytes := by
  obtain ⟨a, len, cap, rfl⟩ := okWide_slice Try.underlying46 hv
  obtain ⟨fuel, hf⟩ := h
  obtain ⟨A, l, c, h1, h2, h3⟩ := read_ops hf hs
  exact ⟨A, l, c, by simpa [Value.cells] using h1, h2, h3⟩
theorem open_op {v : Value} {d : DataW H} {p : List MemPlace} {r : Reach} {b0 : Nat} (hv : Value.okWide Try.prog w r b0 50 v) (h : DataW.Trod enc Try.prog w base spare held 50 v d p) (hs : Light Try.prog 50 d) :
    ∃ (o : Opn) (A : Option Addr) (c : Nat), v = .agg #[.bool o.er, .int .i64 o.at_, .slice A o.bs.length c] ∧ BytesB w w.heap.size A o.bs ∧ o.bs.length ≤ reachBytes := by
  have he := agg_of Try.underlying50 hv
  obtain ⟨fuel, hf⟩ := h
  obtain ⟨o, A, c, hcs, hw, hl⟩ := read_op hf hs
  exact ⟨o, A, c, agg_eq he hcs, hw, hl⟩
theorem reach_is : reachBytes = 140737488351232 := rfl
end
end Go.Proofs.Ytmloiifnadaaoaa
