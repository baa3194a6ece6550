/- A slice of the law's calls that came in reads as a list. -/
import Derived.Test.YtlfmlmnpbcidnaaPGx0
import Derived.SizedLaws
import Derived.Deep.Slices
import Derived.KernelRfl
namespace Go.Proofs.Ytlfmlmnpbcidnaa.Open
open Go.RowKit Go.WideShapes Go.ChangeShapes Go.Deep Go.Proofs.YtlfmlmnpbcidnaaW.PrintWords Go.Proofs.Ytlfmlmnpbcidnaa.PG
set_option linter.unusedVariables false
theorem cells38 : Try.prog.cellsOf 38 = 5 := by kernel_rfl
theorem cells3 : Try.prog.cellsOf 3 = 1 := by kernel_rfl
theorem cells9 : Try.prog.cellsOf 9 = 1 := by kernel_rfl
instance : Inhabited S38 := ⟨z38⟩
theorem one_cell {cs : List Value} {i : Nat} {v : Value} (h : (cs.drop i).take 1 = [v]) : cs[i]? = some v := by
  have : ((cs.drop i).take 1)[0]? = some v := by rw [h]; rfl
  rw [List.getElem?_take, List.getElem?_drop] at this
  simpa using this
theorem open_op {H : Type} {enc : TypeId × Value → H} {W : World} {base : Nat} {spare : Nat → Bool} {held : Bool} {fuel : Nat} {cs : List Value} {x : DataW H × List MemPlace} (h : DataW.trod enc Try.prog W base spare held fuel 38 cs = some x) :
    ∃ o : S38, k38.K W o cs := by
  obtain ⟨xs, n, _, _, hl, hlen, hf⟩ := DataW.trod_struct Try.underlying38 h
  rw [cells38] at hl
  have g0 : DataW.trod enc Try.prog W base spare held n 3 ((cs.drop 0).take (Try.prog.cellsOf 3)) = xs[0]? := hf 0 _ rfl
  have g1 : DataW.trod enc Try.prog W base spare held n 3 ((cs.drop 1).take (Try.prog.cellsOf 3)) = xs[1]? := hf 1 _ rfl
  have g2 : DataW.trod enc Try.prog W base spare held n 3 ((cs.drop 2).take (Try.prog.cellsOf 3)) = xs[2]? := hf 2 _ rfl
  have g3 : DataW.trod enc Try.prog W base spare held n 3 ((cs.drop 3).take (Try.prog.cellsOf 3)) = xs[3]? := hf 3 _ rfl
  have g4 : DataW.trod enc Try.prog W base spare held n 9 ((cs.drop 4).take (Try.prog.cellsOf 9)) = xs[4]? := hf 4 _ rfl
  rw [cells3] at g0 g1 g2 g3
  rw [cells9] at g4
  match xs, hlen with
  | [y0, y1, y2, y3, y4], _ =>
    obtain ⟨a0, e0, _, _⟩ := DataW.trod_int Try.underlying3 g0
    obtain ⟨a1, e1, _, _⟩ := DataW.trod_int Try.underlying3 g1
    obtain ⟨a2, e2, _, _⟩ := DataW.trod_int Try.underlying3 g2
    obtain ⟨a3, e3, _, _⟩ := DataW.trod_int Try.underlying3 g3
    obtain ⟨a4, e4, _, _⟩ := DataW.trod_string Try.underlying9 g4
    refine ⟨⟨a0, a1, a2, a3, a4⟩, ?_⟩
    have c0 := one_cell e0
    have c1 := one_cell e1
    have c2 := one_cell e2
    have c3 := one_cell e3
    have c4 := one_cell e4
    match cs, hl with
    | [u0, u1, u2, u3, u4], _ =>
      cases c0; cases c1; cases c2; cases c3; cases c4
      exact k38_mk W _
theorem open_ops {H : Type} {enc : TypeId × Value → H} {W : World} {base : Nat} {spare : Nat → Bool} {held : Bool} {a : Option Addr} {len cap : Nat} {d : DataW H} {ps : List MemPlace} 
    (h : DataW.Trod enc Try.prog W base spare held 33 (.slice a len cap) d ps) : ∃ l : List S38, len = l.length ∧ Kd.C k38 W a l.length l ∧ l.length ≤ cap ∧ cap ≤ maxLen := by
  obtain ⟨fuel, hf⟩ := h
  rcases open_slice Try.underlying33 hf with ⟨hcs, _⟩ | ⟨x, len', cap', m, n, D, Pl, hcs, hb, hl, hm, hmm, hx, hel⟩
  · simp [Value.cells] at hcs
    obtain ⟨rfl, rfl, rfl⟩ := hcs
    exact ⟨[], rfl, Kd.C_nil _ _, Nat.le_refl _, Nat.zero_le _⟩
  · simp [Value.cells] at hcs
    obtain ⟨rfl, rfl, rfl⟩ := hcs
    have hlm : len ≤ m := by rw [hmm]; split <;> omega
    obtain ⟨o, ho⟩ := choose_lt (α := S38) (p := fun i o => ∃ cs, W.cells? base (x.add (i * 5)) 5 = some cs ∧ k38.K W o cs) (n := len) (fun i hi => by
      obtain ⟨cs, h1, h2⟩ := hel i (by omega)
      rw [cells38] at h1
      obtain ⟨o, ho⟩ := open_op h2
      exact ⟨o, cs, h1, ho⟩)
    have hlen : ((List.range len).map o).length = len := by simp
    refine ⟨(List.range len).map o, hlen.symm, ?_, by rw [hlen]; exact hl, hm⟩
    refine ⟨rfl, by rw [hlen]; exact Nat.le_trans hl hm, fun hn => ⟨x, rfl, fun i p hp => ?_⟩⟩
    have hi : i < len := by
      have := (List.getElem?_eq_some_iff.1 hp).1
      rwa [hlen] at this
    obtain ⟨cs, h1, h2⟩ := ho i hi
    have hpo : p = o i := by
      rw [List.getElem?_map, List.getElem?_range hi] at hp
      exact (Option.some.inj hp).symm
    subst hpo
    obtain ⟨_, h3, h4⟩ := World.cells?_some h1
    refine ⟨cs, h3, h2, fun j u hj => ?_⟩
    have hj5 : j < 5 := by
      have := (List.getElem?_eq_some_iff.1 hj).1
      omega
    have := h4 j hj5
    rw [Deep.add_add] at this
    exact this.trans hj
end Go.Proofs.Ytlfmlmnpbcidnaa.Open
