/- Reading lists of steps, faults, acts, and cases, as data. -/
import Derived.Test.YtmloiifnadaaoaaOpen
import Derived.Test.YtmloiifnadaaoaaStpH
import Derived.Test.YtmloiifnadaaoaaActH
namespace Go.Proofs.Ytmloiifnadaaoaa
open Go.ChangeShapes Go.WideShapes Go.ChangeAt Go.RowKit
open Go.Joins Go.Deep
set_option linter.unusedVariables false
set_option maxRecDepth 100000
section
variable {H : Type} {enc : TypeId × Value → H} {w : World} {base : Nat} {spare : Nat → Bool} {held : Bool}
theorem cells_step : Try.prog.cellsOf 79 = 5 := by kernel_rfl
theorem cells_u8' : Try.prog.cellsOf 5 = 1 := by kernel_rfl

/-- What a step's cells say. -/
def StpIs (w : World) (vs : List Value) (s : Stp) : Prop := ∃ A c, vs = [.int .u8 (s.kind.toNat : Int), .bool s.op.er, .int .i64 s.op.at_, .slice A s.op.bs.length c, .int .i64 s.keep] ∧ BytesB w w.heap.size A s.op.bs ∧ s.op.bs.length ≤ reachBytes
theorem read_step {fuel : Nat} {cs : List Value} {x : DataW H × List MemPlace} (h : DataW.trod enc Try.prog w base spare held fuel 79 cs = some x) (hs : Light Try.prog 79 x.1) : ∃ s, StpIs w cs s := by
  obtain ⟨xs, n, _, rfl, hl, hlen, hf⟩ := DataW.trod_struct Try.underlying79 h
  rw [cells_step] at hl
  have hlen' : xs.length = 3 := hlen
  match cs, hl with
  | [c0, c1, c2, c3, c4], _ =>
    match xs, hlen' with
    | [y0, y1, y2], _ =>
      have g0 : DataW.trod enc Try.prog w base spare held n 5 (List.take (Try.prog.cellsOf 5) [c0, c1, c2, c3, c4]) = some y0 := hf 0 _ rfl
      have g1 : DataW.trod enc Try.prog w base spare held n 50 (List.take (Try.prog.cellsOf 50) [c1, c2, c3, c4]) = some y1 := hf 1 _ rfl
      have g2 : DataW.trod enc Try.prog w base spare held n 3 (List.take (Try.prog.cellsOf 3) [c4]) = some y2 := hf 2 _ rfl
      rw [cells_u8'] at g0
      rw [cells_op] at g1
      rw [cells_int] at g2
      obtain ⟨b, h0, _, hb⟩ := DataW.trod_int Try.underlying5 g0
      obtain ⟨o, A, c, h1, h3, h4⟩ := read_op (cs := [c1, c2, c3]) g1 (fun r hr => hs r (by
        simp only [DataW.weights, Try.underlying79]
        exact DataW.weights_mem_each (j := 1) rfl rfl r hr))
      obtain ⟨a, h2, _⟩ := DataW.trod_int Try.underlying3 g2
      simp at h0 h1 h2
      exact ⟨⟨b.toNat.toUInt8, o, a⟩, A, c, by rw [u8_back hb, h0, h1.1, h1.2.1, h1.2.2, h2], h3, h4⟩
theorem read_steps {fuel : Nat} {cs : List Value} {x : DataW H × List MemPlace} (h : DataW.trod enc Try.prog w base spare held fuel 71 cs = some x) (hs : Light Try.prog 71 x.1) :
    ∃ (A : Option Addr) (l : List Stp) (c : Nat), cs = [.slice A l.length c] ∧ StpsB w w.heap.size A l ∧ l.length ≤ reachBytes := by
  obtain ⟨A, l, c, h1, h2, h3⟩ := read_slice (α := Stp) (StpIs w) Try.underlying71 5 cells_step (by decide) (fun n cs y hl hy hL => read_step hy hL) h hs
  have hb : Try.prog.bytesOf 79 = 56 := by kernel_rfl
  rw [hb] at h2
  have h5 : StpsB w w.heap.size A l := by
    rcases h3 with h3 | ⟨g, off, hA, hg, hc⟩
    · exact .inl h3
    · refine .inr ⟨g, off, hA, hg, fun i o ho => ?_⟩
      obtain ⟨vs, _, hv, A', c', rfl, h4, h5⟩ := hc i o ho
      exact ⟨hv 0 _ rfl, ⟨A', c', hv 1 _ rfl, hv 2 _ rfl, hv 3 _ rfl, h4⟩, hv 4 _ rfl⟩
  exact ⟨A, l, c, h1, h5, by omega⟩
theorem open_steps {v : Value} {d : DataW H} {p : List MemPlace} {r : Reach} {b0 : Nat} (hv : Value.okWide Try.prog w r b0 71 v) (h : DataW.Trod enc Try.prog w base spare held 71 v d p) (hs : Light Try.prog 71 d) :
    ∃ (A : Option Addr) (l : List Stp) (c : Nat), v = .slice A l.length c ∧ StpsB w w.heap.size A l ∧ l.length ≤ reachBytes := by
  obtain ⟨a, len, cap, rfl⟩ := okWide_slice Try.underlying71 hv
  obtain ⟨fuel, hf⟩ := h
  obtain ⟨A, l, c, h1, h2, h3⟩ := read_steps hf hs
  exact ⟨A, l, c, by simpa [Value.cells] using h1, h2, h3⟩

theorem cells_flt : Try.prog.cellsOf 152 = 3 := by kernel_rfl
theorem read_flt {fuel : Nat} {cs : List Value} {x : DataW H × List MemPlace} (h : DataW.trod enc Try.prog w base spare held fuel 152 cs = some x) : ∃ f : Flt, cs = [.int .i64 f.at_, .int .i64 f.kind, .int .i64 f.to] := by
  obtain ⟨xs, n, _, rfl, hl, hlen, hf⟩ := DataW.trod_struct Try.underlying152 h
  rw [cells_flt] at hl
  have hlen' : xs.length = 3 := hlen
  match cs, hl with
  | [c0, c1, c2], _ =>
    obtain ⟨a0, rfl, h0⟩ := cells1 Try.underlying3 cells_int (some_at hlen' (by decide)) (hf 0 _ rfl)
    obtain ⟨a1, rfl, h1⟩ := cells1 Try.underlying3 cells_int (some_at hlen' (by decide)) (hf 1 _ rfl)
    obtain ⟨a2, rfl, h2⟩ := cells1 Try.underlying3 cells_int (some_at hlen' (by decide)) (hf 2 _ rfl)
    exact ⟨⟨a0, a1, a2⟩, rfl⟩
theorem read_flts {fuel : Nat} {cs : List Value} {x : DataW H × List MemPlace} (h : DataW.trod enc Try.prog w base spare held fuel 88 cs = some x) (hs : Light Try.prog 88 x.1) :
    ∃ (A : Option Addr) (l : List Flt) (c : Nat), cs = [.slice A l.length c] ∧ FltsRd w A l ∧ l.length * 24 ≤ reachBytes := by
  obtain ⟨A, l, c, h1, h2, h3⟩ := read_slice (α := Flt) (fun vs f => vs = [.int .i64 f.at_, .int .i64 f.kind, .int .i64 f.to]) Try.underlying88 3 cells_flt (by decide) (fun n cs y hl hy hL => read_flt hy) h hs
  have hb : Try.prog.bytesOf 152 = 24 := by kernel_rfl
  rw [hb] at h2
  refine ⟨A, l, c, h1, h3.imp id (fun ⟨g, off, hA, hg, hc⟩ => ⟨g, off, hA, hg, fun i f hf => ?_⟩), h2⟩
  obtain ⟨vs, _, hv, rfl⟩ := hc i f hf
  exact ⟨hv 0 _ rfl, hv 1 _ rfl, hv 2 _ rfl⟩
theorem open_flts {v : Value} {d : DataW H} {p : List MemPlace} {r : Reach} {b0 : Nat} (hv : Value.okWide Try.prog w r b0 88 v) (h : DataW.Trod enc Try.prog w base spare held 88 v d p) (hs : Light Try.prog 88 d) :
    ∃ (A : Option Addr) (l : List Flt) (c : Nat), v = .slice A l.length c ∧ FltsRd w A l ∧ l.length * 24 ≤ reachBytes := by
  obtain ⟨a, len, cap, rfl⟩ := okWide_slice Try.underlying88 hv
  obtain ⟨fuel, hf⟩ := h
  obtain ⟨A, l, c, h1, h2, h3⟩ := read_flts hf hs
  exact ⟨A, l, c, by simpa [Value.cells] using h1, h2, h3⟩
end
end Go.Proofs.Ytmloiifnadaaoaa
