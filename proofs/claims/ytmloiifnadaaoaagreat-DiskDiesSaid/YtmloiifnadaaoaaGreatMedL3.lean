/- The law MediaApart. -/
import Derived.Test.YtmloiifnadaaoaaGreatApart
import Derived.Test.YtmloiifnadaaoaaGreatMedP
namespace Go.Proofs.YtmloiifnadaaoaaGreat
open Go.RowKit
set_option linter.unusedVariables false
set_option linter.unusedSimpArgs false

/-- append of a slice that may be nil, onto a row of the call's own. -/
theorem wpList_append_any {P : Program} {w : World} {ops : Array Oper} {rest : List Oper} {o : Oper} {a : Act} {Q : Exit → Act → World → Prop} (hgd : o.guard = none) (s x : Operand) (t : TypeId)
    (ho : o.op = .call { callee := .builtin .append, args := #[s, x], argTypes := #[t, t] })
    (base : Nat) (e : TypeId) (i : TypeInfo) (z : Value) (size bytes : Nat) (ht : P.underlying t = some (.slice e)) (hi : P.info? e = some i) (hz : i.zero = some z)
    (hsize : i.size = size) (hby : i.bytes = bytes) (hzs : z.cells.size = size) (hsz : 0 < size)
    (v : Value) (n : Nat) (xs : List Value) (hs : a.eval s = v) (hown : w.ownsRow base e size v n xs)
    (A : Option Addr) (m c : Nat) (news : List Value) (hx : a.eval x = .slice A m c) (hl : news.length = m * size) (hnil : A = none → m = 0) (hnews : CellsRd w A news) (h1 : ∀ u ∈ news, u.oneCell' = true)
    (h63 : n + m ≤ maxLen) (hbytes : (n + m) * bytes ≤ 140737488355328) (hbase : base ≤ w.heap.size)
    (h : ∀ v' w', w'.ownsRow base e size v' (n + m) (xs ++ news) → w.grownBy w' v.ownBlock → (v' = .slice none 0 0 ↔ v = .slice none 0 0 ∧ m = 0) → wpList P ops Q rest (a.put o.dst v') w') : wpList P ops Q (o :: rest) a w := by
  cases A with
  | some ad => exact wpList_append_own w hgd s x t ho base e i z size bytes ht hi hz hsize hby hzs hsz v n xs hs hown ad m c news hx hl (hnews ad rfl) h1 h63 hbytes hbase h
  | none =>
    obtain rfl := hnil rfl
    have hn0 : news = [] := List.eq_nil_of_length_eq_zero (by omega)
    subst hn0
    have hr : (Builtin.append_ #[t, t] o.type #[v, .slice none 0 c]).run P w = .ok v w := by
      rcases hown.2 with ⟨rfl, rfl⟩ | ⟨g, cap, cur, rfl, _, _, hnc, _⟩
      · simp [Builtin.append_, run_underlying ht, sizeOf, typeInfo, hi, Builtin.lenOf, Builtin.firstCells]
      · simp [Builtin.append_, run_underlying ht, sizeOf, typeInfo, hi, Builtin.lenOf, Builtin.firstCells, hnc, storeCells]
    refine wpList_plain hgd fun _ hK => ?_
    unfold Oper.wp execOp
    simp only [ho, resolve, invoke, builtin, Sem.run_bind, Sem.run_pure, Result.andThen_ok, List.map_toArray, List.map_cons, List.map_nil, hs, hx, hr]
    exact hK _ _ (h v w (by simpa using hown) ⟨rfl, rfl, rfl, Nat.le_refl _, fun _ _ _ => rfl⟩ (by simp))

/-- Read of a written sector: the bytes lie in new memory of the caller's own. -/
theorem read_own (p q cap : Nat) (m : Med) (a : Int) (w : World) (h : IsMed w p q cap m) (hh : m.has a = true) (hst : (m.sec a).st = 1) :
    Calls Tryz.prog 86 #[.pointer (some ⟨p, 0, none⟩), .int .i64 a] w fun e w' => ∃ v, e = .returned (.tuple #[v, .int .i64 0]) ∧ w'.ownsRow w.heap.size 5 1 v (m.readB a).length (byteVals (m.readB a)) ∧ Below w.heap.size w w' := by
  have c5 := h.c5
  obtain ⟨h0, h1⟩ := Med.has_iff.1 hh
  obtain ⟨k, rfl⟩ := Int.eq_ofNat_of_zero_le h0
  have hk : k < m.l.length := by omega
  obtain ⟨A, c, s0, s1, hbt, h64⟩ := h.sec hk
  obtain ⟨e1, e2⟩ := Med.read_ok hh hst
  have H2 := Lib.hid e2
  have hst1 : ((m.sec k).st != 1) = false := by simp [hst]
  clear e1 e2 hst
  go_enter Tryz.func86, Tryz.ntmps86
  go_wp2_with (first | ((go_at_call 98; refine (has_any p q cap m _ _ h).mono ?_; rintro e w' ⟨rfl, rfl⟩)) | (go_at_call 82; refine (clone_bytes _ (m.sec k).bs.length _ (byteVals (m.sec k).bs) _ (by rw [byteVals_len]; omega) hbt.rd.cells (byteVals_one _) (by omega) hbt.rd.nil).mono ?_; rintro e w' ⟨v, rfl, ho, hb, _⟩))
  go_ret2
  rw [H2.out]
  exact ⟨v, rfl, ho, hb⟩

theorem owns_frame {S : Nat → Prop} {w w' : World} {base g e size n cap : Nat} {xs : List Value} (h : w.ownsRow base e size (.slice (some ⟨g, 0, none⟩) n cap) n xs) (hF : Fr S w w') (hg : ¬ S g) : w'.ownsRow base e size (.slice (some ⟨g, 0, none⟩) n cap) n xs := by
  refine ⟨h.1, ?_⟩
  rcases h.2 with h2 | ⟨g', c, cur, hv, hb, hg', hr⟩
  · exact .inl h2
  · refine .inr ⟨g', c, cur, hv, hb, ?_, hr⟩
    have : g' = g := by simp at hv; exact hv.1.symm
    subst this
    exact (hF.block g' (Array.getElem?_eq_some_iff.1 hg').1 hg).trans hg'
theorem owns_hasT {w : World} {base g e size n cap : Nat} {xs : List Value} (h : w.ownsRow base e size (.slice (some ⟨g, 0, none⟩) n cap) n xs) : HasT w g e := by
  rcases h.2 with ⟨h2, _⟩ | ⟨g', c, cur, hv, hb, hg', hr⟩
  · cases h2
  · have : g' = g := by simp at hv; exact hv.1.symm
    subst this
    exact ⟨_, _, hg'⟩
/-- All of a row's cells are bytes. -/
def U8s (xs : List Value) : Prop := ∀ u ∈ xs, ∃ x : Int, u = .int .u8 x
theorem u8s_vals (l : List UInt8) : U8s (byteVals l) := fun u hu => by obtain ⟨x, _, rfl⟩ := List.mem_map.1 hu; exact ⟨_, rfl⟩
theorem U8s.set {xs : List Value} (h : U8s xs) (j : Nat) (x : Int) : U8s (xs.set j (.int .u8 x)) := fun u hu => by
  rcases List.mem_or_eq_of_mem_set hu with h1 | h1
  · exact h u h1
  · exact ⟨x, h1⟩

end Go.Proofs.YtmloiifnadaaoaaGreat
