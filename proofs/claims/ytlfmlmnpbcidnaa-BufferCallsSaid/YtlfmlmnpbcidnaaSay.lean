/- The functions that say which pages go. -/
import Derived.Test.YtlfmlmnpbcidnaaPool
import Derived.BigQuiet
namespace Go.Proofs.Ytlfmlmnpbcidnaa.PG
open Go.RowKit Go.Proofs.YtlfmlmnpbcidnaaW.PrintWords Go.Proofs.YtlfmlmnpbcidnaaW.PrintLast Go.Proofs.YtlfmlmnpbcidnaaW.PrintMore
set_option linter.unusedVariables false
set_option linter.unusedSimpArgs false
attribute [local go_sem high] eqA40
/-- What == says of two places. -/
theorem beqP (a b : S40) : (a.f0 == b.f0 && (a.f1 == b.f1)) = decide (a = b) := by
  by_cases h : a = b
  · subst h; simp
  · rw [decide_eq_false h, Bool.and_eq_false_iff]
    by_cases h0 : a.f0 = b.f0
    · exact Or.inr (beq_eq_false_iff_ne.2 (fun h1 => h (S40.ext' h0 h1)))
    · exact Or.inl (beq_eq_false_iff_ne.2 h0)
set_option maxRecDepth 100000 in
/-- use's and Put's functions: is it this place? -/
theorem same34 (W : World) (tb : Nat) (a b : S40) (h : W.heap[tb]? = some (.cells #[.int .i64 b.f0, .int .i64 b.f1] 40 (0, 0))) :
    Calls Try.prog 34 #[encP a, .pointer (some ⟨tb, 0, none⟩)] W fun e W' => e = .returned (.bool (decide (a = b))) ∧ Below W.heap.size W W' := by
  have hl : tb < W.heap.size := blk_lt h
  have c0 : W.cell? ⟨tb, 0, none⟩ = some (.int .i64 b.f0) := by rw [blk_cell h]; rfl
  have c1 : W.cell? ⟨tb, 1, none⟩ = some (.int .i64 b.f1) := by rw [blk_cell h]; rfl
  have HQ := Aside0.mk (beqP a b)
  clear h
  unfold encP
  go_enter Try.func34, Try.ntmps34
  go_wp2_with fail
  go_ret
  exact ⟨by rw [HQ.out]; rfl, below_alloc (Below.refl _ _) _⟩
set_option maxRecDepth 100000 in
theorem same33 (W : World) (tb : Nat) (a b : S40) (h : W.heap[tb]? = some (.cells #[.int .i64 b.f0, .int .i64 b.f1] 40 (0, 0))) :
    Calls Try.prog 33 #[encP a, .pointer (some ⟨tb, 0, none⟩)] W fun e W' => e = .returned (.bool (decide (a = b))) ∧ Below W.heap.size W W' := by
  have hl : tb < W.heap.size := blk_lt h
  have c0 : W.cell? ⟨tb, 0, none⟩ = some (.int .i64 b.f0) := by rw [blk_cell h]; rfl
  have c1 : W.cell? ⟨tb, 1, none⟩ = some (.int .i64 b.f1) := by rw [blk_cell h]; rfl
  have HQ := Aside0.mk (beqP a b)
  clear h
  unfold encP
  go_enter Try.func33, Try.ntmps33
  go_wp2_with fail
  go_ret
  exact ⟨by rw [HQ.out]; rfl, below_alloc (Below.refl _ _) _⟩
set_option maxRecDepth 100000 in
theorem drop28 (W : World) (tb : Nat) (a : S40) (id : Int) (h : W.heap[tb]? = some (.cells #[.int .i64 id] 3 (0, 0))) :
    Calls Try.prog 28 #[encP a, .pointer (some ⟨tb, 0, none⟩)] W fun e W' => e = .returned (.bool (a.f0 == id)) ∧ Below W.heap.size W W' := by
  have hl : tb < W.heap.size := blk_lt h
  have c0 : W.cell? ⟨tb, 0, none⟩ = some (.int .i64 id) := by rw [blk_cell h]; rfl
  clear h
  unfold encP
  go_enter Try.func28, Try.ntmps28
  go_wp2_with fail
  go_ret
  exact ⟨rfl, below_alloc (Below.refl _ _) _⟩
set_option maxRecDepth 100000 in
theorem below_drewN {B : Nat} {w v : World} (h : Below B w v) (n : Nat) : Below B w (v.drewN n) := ⟨h.os, h.tape, h.output, h.size, h.block⟩
theorem zero64 (w : World) : (zeroValue 64).run Try.prog w = .ok (.agg #[.string ⟨#[]⟩, .int .i64 0]) w := by kernel_rfl
set_option maxRecDepth 100000 in
theorem field64 (w : World) (x y : Value) : (Instr.field 64 (.agg #[x, y]) 1).run Try.prog w = .ok y w := by kernel_rfl
set_option maxRecDepth 100000 in
theorem field64' (w : World) (x y : Value) : (Instr.field 64 (.agg #[x, y]) 0).run Try.prog w = .ok x w := by kernel_rfl
attribute [local go_sem high] field64 field64'
set_option maxRecDepth 100000 in
theorem inv27 (W : World) (pb xb vb g bm : Nat) (a b : S40) (ver : Int) (c : Cont) (m : Ents) (c0 v c3 c4 : Value) (hp : W.heap[pb]? = some (.cells #[.int .i64 b.f0, .int .i64 b.f1] 40 (0, 0)))
    (hx : W.heap[xb]? = some (.cells #[.pointer (some ⟨g, 0, none⟩)] 23 (0, 0))) (hv : W.heap[vb]? = some (.cells #[.int .i64 ver] 3 (0, 0)))
    (hg : W.heap[g]? = some (.cells #[c0, .map (some bm), v, c3, c4] 61 (0, 0))) (hm : MapIs W bm m) (hl : look a m = some c) :
    Calls Try.prog 27 #[encP a, .pointer (some ⟨pb, 0, none⟩), .pointer (some ⟨xb, 0, none⟩), .pointer (some ⟨vb, 0, none⟩)] W fun e W' => e = .returned (.bool (decide (a = b) && decide (c.ver < ver))) ∧ Below W.heap.size W W' := by
  have lp : pb < W.heap.size := blk_lt hp
  have lx : xb < W.heap.size := blk_lt hx
  have lv : vb < W.heap.size := blk_lt hv
  have lg : g < W.heap.size := blk_lt hg
  have p0 : W.cell? ⟨pb, 0, none⟩ = some (.int .i64 b.f0) := by rw [blk_cell hp]; rfl
  have p1 : W.cell? ⟨pb, 1, none⟩ = some (.int .i64 b.f1) := by rw [blk_cell hp]; rfl
  have x0 : W.cell? ⟨xb, 0, none⟩ = some (.pointer (some ⟨g, 0, none⟩)) := by rw [blk_cell hx]; rfl
  have v0 : W.cell? ⟨vb, 0, none⟩ = some (.int .i64 ver) := by rw [blk_cell hv]; rfl
  have g1 : W.cell? ⟨g, 1, none⟩ = some (.map (some bm)) := by rw [blk_cell hg]; rfl
  have hlook : ∀ W', Below W.heap.size W W' → (Instr.lookup 59 (.map (some bm)) (.agg #[.int .i64 a.f0, .int .i64 a.f1]) false).run Try.prog W' = .ok (.agg #[.string c.data, .int .i64 c.ver]) W' := by
    intro W' hb
    have h := (hm.move (hb.block bm hm.lt)).run_look Try.underlying59 zero64 a false
    rw [hl] at h
    exact h
  have HL := Aside0.mk hlook
  have HQ := Aside0.mk (beqP a b)
  clear hp hx hv hg hm hl hlook
  unfold encP
  go_enter Try.func27, Try.ntmps27
  go_wp2_with fail
  have hk := fun n => HL.out ((W.alloc (.cells #[.int .i64 a.f0, .int .i64 a.f1] 40)).drewN n) (below_drewN (below_alloc (Below.refl _ _) _) n)
  by_cases h : a = b
  · have hd : (a.f0 == b.f0 && (a.f1 == b.f1)) = true := by rw [HQ.out]; exact decide_eq_true h
    have H := Aside0.mk h
    clear h
    go_quiet (fail)
    go_wp2_with fail
    go_ret
    exact ⟨by rw [decide_eq_true H.out]; rfl, below_drewN (below_alloc (Below.refl _ _) _) _⟩
  · have hd : (a.f0 == b.f0 && (a.f1 == b.f1)) = false := by rw [HQ.out]; exact decide_eq_false h
    have H := Aside0.mk h
    clear h
    go_quiet (fail)
    go_wp2_with fail
    go_ret
    exact ⟨by rw [decide_eq_false H.out]; rfl, below_drewN (below_alloc (Below.refl _ _) _) _⟩
end Go.Proofs.Ytlfmlmnpbcidnaa.PG
