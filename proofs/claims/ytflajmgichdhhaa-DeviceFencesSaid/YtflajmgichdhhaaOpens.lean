/- Slices of whole numbers and of operations that came in read as lists. -/
import Derived.Test.YtflajmgichdhhaaPGx0
import Derived.SizedLaws
import Derived.Deep.Slices
import Derived.KernelRfl
namespace Go.Proofs.Ytflajmgichdhhaa.Opens
open Go.RowKit Go.WideShapes Go.ChangeShapes Go.Deep Go.Proofs.YtflajmgichdhhaaW.PrintWords Go.Proofs.Ytflajmgichdhhaa.PG
set_option linter.unusedVariables false
theorem cells37 : Try.prog.cellsOf 37 = 8 := by kernel_rfl
theorem cells35 : Try.prog.cellsOf 35 = 2 := by kernel_rfl
theorem cells29 : Try.prog.cellsOf 29 = 1 := by kernel_rfl
theorem cells3 : Try.prog.cellsOf 3 = 1 := by kernel_rfl
theorem cells5 : Try.prog.cellsOf 5 = 1 := by kernel_rfl
theorem cells9 : Try.prog.cellsOf 9 = 1 := by kernel_rfl
instance : Inhabited S37 := ⟨z37⟩
theorem one_cell {cs : List Value} {i : Nat} {v : Value} (h : (cs.drop i).take 1 = [v]) : cs[i]? = some v := by
  have : ((cs.drop i).take 1)[0]? = some v := by rw [h]; rfl
  rw [List.getElem?_take, List.getElem?_drop] at this
  simpa using this
/-- The numbers of an operation are of their kinds. -/
structure OpWf (o : S37) : Prop where
  kind : 0 ≤ o.f0 ∧ o.f0 < 256
  n : -9223372036854775808 ≤ o.f4 ∧ o.f4 ≤ 9223372036854775807
  mask : 0 ≤ o.f5 ∧ o.f5 < 256
theorem wf_i64 {n : Int} (h : (Lit.int .i64 n).wf = true) : -9223372036854775808 ≤ n ∧ n ≤ 9223372036854775807 := by
  simp [Lit.wf, show IntKind.i64.min = -9223372036854775808 from rfl, show IntKind.i64.max = 9223372036854775807 from rfl] at h; omega
theorem wf_u8 {n : Int} (h : (Lit.int .u8 n).wf = true) : 0 ≤ n ∧ n < 256 := by
  simp [Lit.wf, show IntKind.u8.min = 0 from rfl, show IntKind.u8.max = 255 from rfl] at h; omega
theorem open_ints' {H : Type} {enc : TypeId × Value → H} {W : World} {base : Nat} {spare : Nat → Bool} {held : Bool} {fuel : Nat} {cs : List Value} {x : DataW H × List MemPlace} (hf : DataW.trod enc Try.prog W base spare held fuel 29 cs = some x) :
    ∃ (a : Option Addr) (l : List Int) (cap : Nat), cs = [.slice a l.length cap] ∧ Kd.C (Kd.int .i64) W a l.length l ∧ l.length ≤ cap ∧ cap ≤ maxLen := by
  rcases open_slice Try.underlying29 hf with ⟨hcs, _⟩ | ⟨x, len, cap, m, n, D, Pl, hcs, hb, hl, hm, hmm, hx, hel⟩
  · exact ⟨none, [], 0, hcs, Kd.C_nil _ _, Nat.le_refl _, Nat.zero_le _⟩
  · have hlm : len ≤ m := by rw [hmm]; split <;> omega
    obtain ⟨o, ho⟩ := choose_lt (α := Int) (p := fun i o => W.cell? (x.add i) = some (.int .i64 o)) (n := len) (fun i hi => by
      obtain ⟨cs', h1, h2⟩ := hel i (by omega)
      rw [cells3] at h1
      obtain ⟨o, e, _, _⟩ := DataW.trod_int Try.underlying3 h2
      obtain ⟨_, h3, h4⟩ := World.cells?_some h1
      have := h4 0 (by omega)
      rw [Deep.add_add, Nat.mul_one, Nat.add_zero, e] at this
      exact ⟨o, this⟩)
    have hlen : ((List.range len).map o).length = len := by simp
    refine ⟨some x, (List.range len).map o, cap, by rw [hlen]; exact hcs, ?_, by rw [hlen]; exact hl, hm⟩
    refine ⟨rfl, by rw [hlen]; exact Nat.le_trans hl hm, fun hn => ⟨x, rfl, fun i p hp => ?_⟩⟩
    have hi : i < len := by
      have := (List.getElem?_eq_some_iff.1 hp).1
      rwa [hlen] at this
    have hpo : p = o i := by
      rw [List.getElem?_map, List.getElem?_range hi] at hp
      exact (Option.some.inj hp).symm
    subst hpo
    refine ⟨[.int .i64 (o i)], rfl, rfl, fun j u hj => ?_⟩
    match j with
    | 0 =>
      cases hj
      have := ho i hi
      rwa [show i * (Kd.int .i64).sz + 0 = i from by show i * 1 + 0 = i; omega]
    | j + 1 => cases hj
theorem open_ints {H : Type} {enc : TypeId × Value → H} {W : World} {base : Nat} {spare : Nat → Bool} {held : Bool} {a : Option Addr} {len cap : Nat} {d : DataW H} {ps : List MemPlace}
    (h : DataW.Trod enc Try.prog W base spare held 29 (.slice a len cap) d ps) : ∃ l : List Int, len = l.length ∧ Kd.C (Kd.int .i64) W a l.length l ∧ l.length ≤ cap ∧ cap ≤ maxLen := by
  obtain ⟨fuel, hf⟩ := h
  obtain ⟨a', l, cap', e, h1, h2, h3⟩ := open_ints' hf
  simp [Value.cells] at e
  obtain ⟨rfl, rfl, rfl⟩ := e
  exact ⟨l, rfl, h1, h2, h3⟩
set_option maxRecDepth 100000 in
theorem open_op {H : Type} {enc : TypeId × Value → H} {W : World} {base : Nat} {spare : Nat → Bool} {held : Bool} {fuel : Nat} {cs : List Value} {x : DataW H × List MemPlace} (h : DataW.trod enc Try.prog W base spare held fuel 37 cs = some x) :
    ∃ o : S37, k37.K W o cs ∧ OpWf o := by
  obtain ⟨xs, n, _, _, hl, hlen, hf⟩ := DataW.trod_struct Try.underlying37 h
  rw [cells37] at hl
  have g0 : DataW.trod enc Try.prog W base spare held n 5 ((cs.drop 0).take (Try.prog.cellsOf 5)) = xs[0]? := hf 0 _ rfl
  have g1 : DataW.trod enc Try.prog W base spare held n 35 ((cs.drop 1).take (Try.prog.cellsOf 35)) = xs[1]? := hf 1 _ rfl
  have g2 : DataW.trod enc Try.prog W base spare held n 3 ((cs.drop 3).take (Try.prog.cellsOf 3)) = xs[2]? := hf 2 _ rfl
  have g3 : DataW.trod enc Try.prog W base spare held n 9 ((cs.drop 4).take (Try.prog.cellsOf 9)) = xs[3]? := hf 3 _ rfl
  have g4 : DataW.trod enc Try.prog W base spare held n 3 ((cs.drop 5).take (Try.prog.cellsOf 3)) = xs[4]? := hf 4 _ rfl
  have g5 : DataW.trod enc Try.prog W base spare held n 5 ((cs.drop 6).take (Try.prog.cellsOf 5)) = xs[5]? := hf 5 _ rfl
  have g6 : DataW.trod enc Try.prog W base spare held n 29 ((cs.drop 7).take (Try.prog.cellsOf 29)) = xs[6]? := hf 6 _ rfl
  rw [cells3] at g2 g4
  rw [cells5] at g0 g5
  rw [cells9] at g3
  rw [cells35] at g1
  rw [cells29] at g6
  match xs, hlen with
  | [y0, y1, y2, y3, y4, y5, y6], _ =>
    obtain ⟨a0, e0, _, w0⟩ := DataW.trod_int Try.underlying5 g0
    obtain ⟨zs, n2, _, _, hl2, hlen2, hf2⟩ := DataW.trod_struct Try.underlying35 g1
    have q0 : DataW.trod enc Try.prog W base spare held n2 3 ((((cs.drop 1).take 2).drop 0).take (Try.prog.cellsOf 3)) = zs[0]? := hf2 0 _ rfl
    have q1 : DataW.trod enc Try.prog W base spare held n2 3 ((((cs.drop 1).take 2).drop 1).take (Try.prog.cellsOf 3)) = zs[1]? := hf2 1 _ rfl
    rw [cells3] at q0 q1
    match zs, hlen2 with
    | [z0, z1], _ =>
      obtain ⟨b0, f0, _, _⟩ := DataW.trod_int Try.underlying3 q0
      obtain ⟨b1, f1, _, _⟩ := DataW.trod_int Try.underlying3 q1
      obtain ⟨a2, e2, _, _⟩ := DataW.trod_int Try.underlying3 g2
      obtain ⟨a3, e3, _, _⟩ := DataW.trod_string Try.underlying9 g3
      obtain ⟨a4, e4, _, w4⟩ := DataW.trod_int Try.underlying3 g4
      obtain ⟨a5, e5, _, w5⟩ := DataW.trod_int Try.underlying5 g5
      obtain ⟨A, l, c, e6, hC, hc, _⟩ := open_ints' g6
      have c0 := one_cell e0
      have c1 := one_cell f0
      have c2 := one_cell f1
      have c3 := one_cell e2
      have c4 := one_cell e3
      have c5 := one_cell e4
      have c6 := one_cell e5
      have c7 := one_cell e6
      match cs, hl with
      | [u0, u1, u2, u3, u4, u5, u6, u7], _ =>
        cases c0; cases c1; cases c2; cases c3; cases c4; cases c5; cases c6; cases c7
        exact ⟨⟨a0, ⟨b0, b1⟩, a2, a3, a4, a5, l⟩, k37_mk W ⟨a0, ⟨b0, b1⟩, a2, a3, a4, a5, l⟩ hc hC, ⟨wf_u8 w0, wf_i64 w4, wf_u8 w5⟩⟩
theorem open_ops {H : Type} {enc : TypeId × Value → H} {W : World} {base : Nat} {spare : Nat → Bool} {held : Bool} {a : Option Addr} {len cap : Nat} {d : DataW H} {ps : List MemPlace}
    (h : DataW.Trod enc Try.prog W base spare held 22 (.slice a len cap) d ps) : ∃ l : List S37, len = l.length ∧ Kd.C k37 W a l.length l ∧ l.length ≤ cap ∧ cap ≤ maxLen ∧ ∀ o ∈ l, OpWf o := by
  obtain ⟨fuel, hf⟩ := h
  rcases open_slice Try.underlying22 hf with ⟨hcs, _⟩ | ⟨x, len', cap', m, n, D, Pl, hcs, hb, hl, hm, hmm, hx, hel⟩
  · simp [Value.cells] at hcs
    obtain ⟨rfl, rfl, rfl⟩ := hcs
    exact ⟨[], rfl, Kd.C_nil _ _, Nat.le_refl _, Nat.zero_le _, fun o ho => by cases ho⟩
  · simp [Value.cells] at hcs
    obtain ⟨rfl, rfl, rfl⟩ := hcs
    have hlm : len ≤ m := by rw [hmm]; split <;> omega
    obtain ⟨o, ho⟩ := choose_lt (α := S37) (p := fun i o => (∃ cs, W.cells? base (x.add (i * 8)) 8 = some cs ∧ k37.K W o cs) ∧ OpWf o) (n := len) (fun i hi => by
      obtain ⟨cs, h1, h2⟩ := hel i (by omega)
      rw [cells37] at h1
      obtain ⟨o, ho, hw⟩ := open_op h2
      exact ⟨o, ⟨cs, h1, ho⟩, hw⟩)
    have hlen : ((List.range len).map o).length = len := by simp
    refine ⟨(List.range len).map o, hlen.symm, ?_, by rw [hlen]; exact hl, hm, fun p hp => ?_⟩
    · refine ⟨rfl, by rw [hlen]; exact Nat.le_trans hl hm, fun hn => ⟨x, rfl, fun i p hp => ?_⟩⟩
      have hi : i < len := by
        have := (List.getElem?_eq_some_iff.1 hp).1
        rwa [hlen] at this
      obtain ⟨⟨cs, h1, h2⟩, _⟩ := ho i hi
      have hpo : p = o i := by
        rw [List.getElem?_map, List.getElem?_range hi] at hp
        exact (Option.some.inj hp).symm
      subst hpo
      obtain ⟨_, h3, h4⟩ := World.cells?_some h1
      refine ⟨cs, h3, h2, fun j u hj => ?_⟩
      have hj8 : j < 8 := by
        have := (List.getElem?_eq_some_iff.1 hj).1
        omega
      have := h4 j hj8
      rw [Deep.add_add] at this
      exact this.trans hj
    · obtain ⟨i, hi, rfl⟩ := List.mem_map.1 hp
      exact (ho i (List.mem_range.1 hi)).2
end Go.Proofs.Ytflajmgichdhhaa.Opens
