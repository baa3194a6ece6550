/- Two devices held through calls; a fenced writer. -/
import Derived.Test.YtflajmgichdhhaaCloneB
import Derived.BigQuiet


namespace Go.Proofs.Ytflajmgichdhhaa.PG
open Go.RowKit Go.Proofs.YtflajmgichdhhaaW.PrintWords Go.Proofs.YtflajmgichdhhaaW.PrintLast Go.Proofs.YtflajmgichdhhaaW.PrintMore

set_option linter.unusedVariables false
set_option linter.unusedSimpArgs false
/-! ### two devices and some blocks beside them, held through calls on either -/
def Two (W0 : World) (L : Lay) (K : List (Nat × Obj)) (S : DevS) (L2 : Lay) (S2 : DevS) (W1 : World) : Prop :=
  ∃ F F2, DevIs W1 W0.heap.size L F S ∧ DevIs W1 W0.heap.size L2 F2 S2 ∧ (∀ k, F k → ¬ F2 k) ∧ (∀ p ∈ K, W1.heap[p.1]? = some p.2 ∧ ¬ F p.1 ∧ ¬ F2 p.1) ∧ Below W0.heap.size W0 W1
section
variable {W0 W1 W2 : World} {L L2 : Lay} {K : List (Nat × Obj)} {S S' S2 : DevS} {k : Nat}
theorem Two.bel (h : Two W0 L K S L2 S2 W1) : Below W0.heap.size W0 W1 := by obtain ⟨_, _, _, _, _, _, h⟩ := h; exact h
theorem Two.swap (h : Two W0 L K S L2 S2 W1) : Two W0 L2 K S2 L S W1 := by
  obtain ⟨F, F2, h1, h2, h3, h4, h5⟩ := h
  exact ⟨F2, F, h2, h1, fun k z y => h3 k y z, fun p hp => ⟨(h4 p hp).1, (h4 p hp).2.2, (h4 p hp).2.1⟩, h5⟩
theorem Two.blk (h : Two W0 L K S L2 S2 W1) {b : Nat} {o : Obj} (hp : (b, o) ∈ K) : W1.heap[b]? = some o := by
  obtain ⟨F, F2, _, _, _, h4, _⟩ := h
  exact (h4 _ hp).1
theorem Two.hold (h : Two W0 L K S L2 S2 W1) (hb : Below W1.heap.size W1 W2) (K' : List (Nat × Obj)) (hK : ∀ p ∈ K', W1.heap.size ≤ p.1 ∧ W2.heap[p.1]? = some p.2) : Two W0 L (K' ++ K) S L2 S2 W2 := by
  obtain ⟨F, F2, h1, h2, h3, h4, h5⟩ := h
  refine ⟨F, F2, h1.below hb, h2.below hb, h3, fun p hp => ?_, h5.trans (hb.mono h5.size)⟩
  rcases List.mem_append.1 hp with hp | hp
  · obtain ⟨a, b⟩ := hK p hp
    exact ⟨b, fun z => by have := (h1.range _ z).2; omega, fun z => by have := (h2.range _ z).2; omega⟩
  · exact ⟨blk_below (h4 p hp).1 hb, (h4 p hp).2⟩
theorem Two.below (h : Two W0 L K S L2 S2 W1) (hb : Below W1.heap.size W1 W2) : Two W0 L K S L2 S2 W2 := h.hold hb [] (fun p hp => by cases hp)
theorem Two.only (h : Two W0 L K S L2 S2 W1) (K' : List (Nat × Obj)) (hK : ∀ p ∈ K', p ∈ K) : Two W0 L K' S L2 S2 W1 := by
  obtain ⟨F, F2, h1, h2, h3, h4, h5⟩ := h
  exact ⟨F, F2, h1, h2, h3, fun p hp => h4 p (hK p hp), h5⟩
theorem Two.post {P : Program} {f : FuncId} {args : Array Value} {E : Ending} (h : Two W0 L K S L2 S2 W1) (hc : ∀ F, DevIs W1 W0.heap.size L F S → Calls P f args W1 fun e W' => e = E ∧ DevPost W0.heap.size L F S' W1 W') :
    Calls P f args W1 fun e W' => e = E ∧ Two W0 L K S' L2 S2 W' := by
  obtain ⟨F, F2, h1, h2, h3, h4, h5⟩ := h
  refine (hc F h1).mono ?_
  rintro e W' ⟨he, F', d1, d2, d3, d4⟩
  refine ⟨he, F', F2, d1, h2.kept d3 (fun k z y => h3 k y z), fun k z y => ?_, fun p hp => ?_, h5.trans d4⟩
  · rcases d2 k z with w | w
    · exact h3 k w y
    · have := (h2.range _ y).2; omega
  · obtain ⟨a, b, c⟩ := h4 p hp
    have hlt := blk_lt a
    exact ⟨(d3.2 p.1 hlt b).trans a, fun z => (d2 _ z).elim b (fun y => by omega), c⟩
theorem Two.of_clone {L' : Lay} {F : Nat → Prop} (h : Inv W0 L K S W1) (h2 : DevIs W2 W1.heap.size L' (fun k => W1.heap.size ≤ k ∧ k < W2.heap.size) S) (hb : Below W1.heap.size W1 W2) : Two W0 L K S L' S W2 := by
  obtain ⟨F, h1, h4, h5⟩ := h
  refine ⟨F, _, h1.below hb, h2.lower h5.size, fun k z y => ?_, fun p hp => ?_, h5.trans (hb.mono h5.size)⟩
  · have := (h1.range _ z).2
    omega
  · obtain ⟨a, b⟩ := h4 p hp
    exact ⟨blk_below a hb, b, fun y => by have := blk_lt a; omega⟩
theorem Inv.clone (h : Inv W0 L K S W1) (hf : Good k S) (hk : k ≤ 1000000) :
    Calls Try.prog 16 #[.pointer (some ⟨L.g, 0, none⟩)] W1 fun e W' => ∃ L', e = .returned (.pointer (some ⟨L'.g, 0, none⟩)) ∧ Two W0 L K S L' S W' := by
  obtain ⟨F, h1, _⟩ := id h
  refine (clone_calls h1 hf.fine hk hf.surv).mono ?_
  rintro e W' ⟨L', he, hd, hb⟩
  exact ⟨L', he, Two.of_clone (F := F) h hd hb⟩
theorem Two.write (h : Two W0 L K S L2 S2 W1) (hf : Fine k S) (hk : k ≤ 1000000) (hsl : S.surv.length ≤ 4611686018427387904) (sys ep sec : Int) (d : ByteArray) {r : Int} (hr : writeS S sys ep sec d = (r, S')) :
    Calls Try.prog 20 #[.pointer (some ⟨L.g, 0, none⟩), .agg #[.int .i64 sys, .int .i64 ep], .int .i64 sec, .string d] W1 fun e W' => e = .returned (.int .i64 r) ∧ Two W0 L K S' L2 S2 W' :=
  h.post (fun F hI => by have := write_calls hI hf hk hsl sys ep sec d; rw [hr] at this; exact this)
theorem Two.sync (h : Two W0 L K S L2 S2 W1) (hf : Fine k S) (hk : k ≤ 1000000) (hsl : S.surv.length ≤ 4611686018427387904) (sys ep : Int) {r : Int} (hr : syncS S sys ep = (r, S')) :
    Calls Try.prog 21 #[.pointer (some ⟨L.g, 0, none⟩), .agg #[.int .i64 sys, .int .i64 ep]] W1 fun e W' => e = .returned (.int .i64 r) ∧ Two W0 L K S' L2 S2 W' :=
  h.post (fun F hI => by have := sync_calls hI hf hk hsl sys ep; rw [hr] at this; exact this)
theorem Two.read (h : Two W0 L K S L2 S2 W1) (hpl : S.pend.length ≤ 1000000) (i : Int) {d : ByteArray} {r : Int} (hr : readS S i = (d, r)) :
    Calls Try.prog 23 #[.pointer (some ⟨L.g, 0, none⟩), .int .i64 i] W1 fun e W' => e = .returned (.tuple #[.string d, .int .i64 r]) ∧ W1 = W' := by
  obtain ⟨F, F2, h1, _⟩ := h
  have := readI h1 hpl i
  rw [hr] at this
  exact this
theorem Two.pend (h : Two W0 L K S L2 S2 W1) (hpl : S.pend.length ≤ 1000000) (i : Int) {n : Nat} (hn : pendN S i = n) :
    Calls Try.prog 24 #[.pointer (some ⟨L.g, 0, none⟩), .int .i64 i] W1 fun e W' => e = .returned (.int .i64 (n : Int)) ∧ Two W0 L K S L2 S2 W' := by
  obtain ⟨F, F2, h1, _⟩ := id h
  refine (pendI h1 hpl i).mono ?_
  rintro e W' ⟨he, hb⟩
  exact ⟨by rw [← hn]; exact he, h.below hb⟩
end
/-! ### a fenced writer -/
theorem fence_new (n : Nat) (m : Int) (a : Int) : (fenceS (newS n) 3 m).fences a = if a = 3 then some m else none := by
  unfold fenceS newS
  rw [if_neg (by decide)]
  simp
theorem fence_new_same (n : Nat) (m : Int) : (fenceS (newS n) 3 m).failed = false ∧ (fenceS (newS n) 3 m).fset = false ∧ (fenceS (newS n) 3 m).stable = (newS n).stable ∧ (fenceS (newS n) 3 m).pend = [] ∧ (fenceS (newS n) 3 m).surv = [] := by
  unfold fenceS newS
  rw [if_neg (by decide)]
  simp
theorem fenced_admit (m ep : Int) (h : ep ≤ m) : admitS (fenceS (newS 4) 3 m) 3 ep = (13, fenceS (newS 4) 3 m) := by
  obtain ⟨a, b, c, d, e⟩ := fence_new_same 4 m
  unfold admitS fencedS
  rw [if_neg (by rw [a]; simp), fence_new, if_pos rfl, if_pos (decide_eq_true h)]
theorem fenced_write (m ep : Int) (h : ep ≤ m) (h0 : 0 ≤ ep) (h1 : ep ≤ 1099511627776) (d : ByteArray) (hd : d.size = 140) : writeS (fenceS (newS 4) 3 m) 3 ep 0 d = (13, fenceS (newS 4) 3 m) := by
  have hp : plainB 3 ep = true := by simp [plainB, h0, h1]
  obtain ⟨a, b, c, _, e⟩ := fence_new_same 4 m
  unfold writeS
  rw [if_pos ⟨hp, hd⟩, if_pos ⟨by decide, by rw [c]; decide⟩, fenced_admit m ep h, if_neg (by show ¬ (13 : Int) = 0; decide)]
theorem fenced_sync (m ep : Int) (h : ep ≤ m) (h0 : 0 ≤ ep) (h1 : ep ≤ 1099511627776) : syncS (fenceS (newS 4) 3 m) 3 ep = (13, fenceS (newS 4) 3 m) := by
  have hp : plainB 3 ep = true := by simp [plainB, h0, h1]
  unfold syncS
  rw [if_pos hp, fenced_admit m ep h, if_neg (by show ¬ (13 : Int) = 0; decide)]
/-- A writer that is not fenced, on a device that does not fail. -/
theorem free_write (S : DevS) (sys ep : Int) (d : ByteArray) (hd : d.size = 140) (hp : plainB sys ep = true) (hn : 0 < S.stable.length) (hf : S.failed = false) (hs : S.fset = false) (hfe : ∀ f, S.fences sys = some f → f < ep) : writeS S sys ep 0 d = (0, pushS S ⟨sys, 0, d⟩) := by
  have ha : admitS S sys ep = (0, S) := by
    unfold admitS fencedS
    rw [if_neg (by rw [hf]; simp)]
    cases hx : S.fences sys with
    | none => simp [hs]
    | some f =>
      have := hfe f hx
      have hd : decide (ep ≤ f) = false := decide_eq_false (by omega)
      simp [hs, hd]
  unfold writeS
  rw [if_pos ⟨hp, hd⟩, if_pos ⟨by decide, by omega⟩, ha, if_pos rfl]
end Go.Proofs.Ytflajmgichdhhaa.PG
