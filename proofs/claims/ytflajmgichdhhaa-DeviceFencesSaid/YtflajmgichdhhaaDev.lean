/- The device in memory, told by plain lists. -/
import Derived.Test.YtflajmgichdhhaaMap
import Derived.BigQuiet


namespace Go.Proofs.Ytflajmgichdhhaa.PG
open Go.RowKit Go.Proofs.YtflajmgichdhhaaW.PrintWords Go.Proofs.YtflajmgichdhhaaW.PrintLast Go.Proofs.YtflajmgichdhhaaW.PrintMore

set_option linter.unusedVariables false
set_option linter.unusedSimpArgs false
/-! ### the device, told -/
structure DevS where
  stable : List ByteArray
  old : List (List ByteArray)
  pend : List S99
  fences : Int → Option Int
  fset : Bool
  left : Int
  surv : List Int
  failed : Bool
/-- Where a device lies: its struct, its contents, the rows of its earlier contents, its fences. -/
structure Lay where
  g : Nat
  sb : Nat
  ob : Nat
  bm : Nat
/-- The blocks of a device that are written. -/
def Mut (L : Lay) (pv : Value) (k : Nat) : Prop := k = L.g ∨ k = L.sb ∨ k = L.ob ∨ k = L.bm ∨ some k = pv.ownBlock
def strs (xs : List ByteArray) : Array Value := (xs.map Value.string).toArray
/-- Its blocks that are only read. -/
def Fr (L : Lay) (pv : Value) (F : Nat → Prop) (k : Nat) : Prop := F k ∧ ¬ Mut L pv k
def gcells (L : Lay) (pv uv : Value) (S : DevS) : Array Value := #[.slice (some ⟨L.sb, 0, none⟩) S.stable.length S.stable.length, .slice (some ⟨L.ob, 0, none⟩) S.stable.length S.stable.length, pv, .map (some L.bm), .bool S.fset, .int .i64 S.left, uv, .bool S.failed]
structure DevAt (W : World) (B : Nat) (L : Lay) (vs : List Value) (pv uv : Value) (m : Ents) (F : Nat → Prop) (S : DevS) : Prop where
  hg : W.heap[L.g]? = some (.cells (gcells L pv uv S) 81 (0, 0))
  hs : W.heap[L.sb]? = some (.cells (strs S.stable) 9 (0, 0))
  ho : W.heap[L.ob]? = some (.cells vs.toArray 26 (0, 0))
  hvl : vs.length = S.old.length
  hv : ∀ (i : Nat) (v : Value) (x : List ByteArray), vs[i]? = some v → S.old[i]? = some x → Kd.V Kd.string 9 W 0 (Fr L pv F) v x
  hp : Kd.R k99 84 W B F pv S.pend
  hm : MapIs W L.bm m
  hl : ∀ a, look a m = S.fences a
  hu : Kd.V (Kd.int .i64) 3 W 0 (Fr L pv F) uv S.surv
  hF : F L.g ∧ F L.sb ∧ F L.ob ∧ F L.bm
  hr : ∀ k, F k → B ≤ k ∧ k < W.heap.size
def DevIs (W : World) (B : Nat) (L : Lay) (F : Nat → Prop) (S : DevS) : Prop := ∃ vs pv uv m, DevAt W B L vs pv uv m F S
/-- What stays true of a device, whatever is called. -/
structure Fine (k : Nat) (S : DevS) : Prop where
  len : S.old.length = S.stable.length
  n0 : 1 ≤ S.stable.length
  n1 : S.stable.length ≤ 1155
  size : ∀ s ∈ S.stable, s.size = 140
  olen : ∀ l ∈ S.old, l.length ≤ 8
  osize : ∀ l ∈ S.old, ∀ s ∈ l, s.size = 140
  pend : ∀ w ∈ S.pend, 1 ≤ w.f0 ∧ w.f0 ≤ 4 ∧ 0 ≤ w.f1 ∧ w.f1 < S.stable.length ∧ w.f2.size = 140
  plen : S.pend.length ≤ k
  l0 : 0 ≤ S.left ∧ S.left ≤ 9223372036854775807
/-- Behind a call on a device. -/
def DevPost (B : Nat) (L : Lay) (F : Nat → Prop) (S' : DevS) (W W' : World) : Prop := ∃ F' : Nat → Prop, DevIs W' B L F' S' ∧ (∀ k, F' k → F k ∨ W.heap.size ≤ k) ∧ Kept W W' F ∧ Below B W W'
theorem DevAt.own {W : World} {B : Nat} {L : Lay} {vs : List Value} {pv uv : Value} {m : Ents} {F : Nat → Prop} {S : DevS} (h : DevAt W B L vs pv uv m F S) : ∀ k, Mut L pv k → F k := by
  rintro k (e | e | e | e | e)
  · rw [e]; exact h.hF.1
  · rw [e]; exact h.hF.2.1
  · rw [e]; exact h.hF.2.2.1
  · rw [e]; exact h.hF.2.2.2
  · exact h.hp.1 k e.symm
theorem DevAt.move {W W' : World} {B : Nat} {L : Lay} {vs : List Value} {pv uv : Value} {m : Ents} {F : Nat → Prop} {S : DevS} (h : DevAt W B L vs pv uv m F S) (hb : ∀ k, F k → W'.heap[k]? = W.heap[k]?) (hs : W.heap.size ≤ W'.heap.size) : DevAt W' B L vs pv uv m F S :=
  { hg := (hb _ h.hF.1).trans h.hg
    hs := (hb _ h.hF.2.1).trans h.hs
    ho := (hb _ h.hF.2.2.1).trans h.ho
    hvl := h.hvl
    hv := fun i v x h1 h2 => Kd.V_step (h.hv i v x h1 h2) (fun k hk _ => hb k hk.1)
    hp := Kd.R_step h.hp (fun k hk _ => hb k hk)
    hm := h.hm.move (hb _ h.hF.2.2.2)
    hl := h.hl
    hu := Kd.V_step h.hu (fun k hk _ => hb k hk.1)
    hF := h.hF
    hr := fun k hk => ⟨(h.hr k hk).1, by have := (h.hr k hk).2; omega⟩ }
theorem DevAt.below {W W' : World} {B : Nat} {L : Lay} {vs : List Value} {pv uv : Value} {m : Ents} {F : Nat → Prop} {S : DevS} (h : DevAt W B L vs pv uv m F S) (hb : Below W.heap.size W W') : DevAt W' B L vs pv uv m F S :=
  h.move (fun k hk => hb.block k (h.hr k hk).2) hb.size
theorem DevIs.below {W W' : World} {B : Nat} {L : Lay} {F : Nat → Prop} {S : DevS} (h : DevIs W B L F S) (hb : Below W.heap.size W W') : DevIs W' B L F S := by
  obtain ⟨vs, pv, uv, m, h⟩ := h
  exact ⟨vs, pv, uv, m, h.below hb⟩
theorem DevIs.move {W W' : World} {B : Nat} {L : Lay} {F : Nat → Prop} {S : DevS} (h : DevIs W B L F S) (hb : ∀ k, F k → W'.heap[k]? = W.heap[k]?) (hs : W.heap.size ≤ W'.heap.size) : DevIs W' B L F S := by
  obtain ⟨vs, pv, uv, m, h⟩ := h
  exact ⟨vs, pv, uv, m, h.move hb hs⟩
theorem DevIs.range {W : World} {B : Nat} {L : Lay} {F : Nat → Prop} {S : DevS} (h : DevIs W B L F S) : ∀ k, F k → B ≤ k ∧ k < W.heap.size := by
  obtain ⟨vs, pv, uv, m, h⟩ := h
  exact h.hr
theorem DevIs.hB {W : World} {B : Nat} {L : Lay} {F : Nat → Prop} {S : DevS} (h : DevIs W B L F S) : B ≤ W.heap.size := by
  obtain ⟨vs, pv, uv, m, h⟩ := h
  have := h.hr _ h.hF.1
  omega
theorem DevIs.kept {W W' : World} {B : Nat} {L : Lay} {F X : Nat → Prop} {S : DevS} (h : DevIs W B L F S) (hk : Kept W W' X) (hx : ∀ k, F k → ¬ X k) : DevIs W' B L F S :=
  h.move (fun k hF => hk.2 k (h.range k hF).2 (hx k hF)) hk.1
theorem DevIs.lower {W : World} {B B' : Nat} {L : Lay} {F : Nat → Prop} {S : DevS} (h : DevIs W B L F S) (hb : B' ≤ B) : DevIs W B' L F S := by
  obtain ⟨vs, pv, uv, m, h⟩ := h
  exact ⟨vs, pv, uv, m, { h with hp := Kd.R_lower h.hp hb, hr := fun k hk => ⟨Nat.le_trans hb (h.hr k hk).1, (h.hr k hk).2⟩ }⟩
theorem DevPost.same {W W' : World} {B : Nat} {L : Lay} {F : Nat → Prop} {S : DevS} (h : DevIs W B L F S) (hb : Below W.heap.size W W') : DevPost B L F S W W' := ⟨F, h.below hb, fun k z => Or.inl z, Kept.of_below hb F, hb.mono h.hB⟩
theorem DevPost.after {W W1 W2 : World} {B : Nat} {L : Lay} {F : Nat → Prop} {S : DevS} (h : DevPost B L F S W1 W2) (hb : Below W.heap.size W W1) (hB : B ≤ W.heap.size) : DevPost B L F S W W2 := by
  obtain ⟨F', h1, h2, h3, h4⟩ := h
  exact ⟨F', h1, fun k z => (h2 k z).imp id (fun y => Nat.le_trans hb.size y), (Kept.of_below hb F).then_ h3 (fun k z => Or.inl z), (hb.mono hB).trans h4⟩
theorem DevPost.then_ {W W1 W2 : World} {B : Nat} {L : Lay} {F : Nat → Prop} {S1 S2 : DevS} (h : DevPost B L F S1 W W1) (h2 : ∀ F1, DevIs W1 B L F1 S1 → DevPost B L F1 S2 W1 W2) : DevPost B L F S2 W W2 := by
  obtain ⟨F1, a1, a2, a3, a4⟩ := h
  obtain ⟨F2, b1, b2, b3, b4⟩ := h2 F1 a1
  have hs := a3.1
  exact ⟨F2, b1, fun k z => (b2 k z).elim (fun y => a2 k y) (fun y => Or.inr (by omega)), a3.then_ b3 (fun k z => a2 k z), a4.trans b4⟩
theorem DevPost.drewN {W W1 : World} {B : Nat} {L : Lay} {F : Nat → Prop} {S : DevS} (h : DevPost B L F S W W1) (n : Nat) : DevPost B L F S W (W1.drewN n) :=
  h.then_ (fun _ h1 => DevPost.same h1 (pw_below_drewN (Below.refl _ _) n))
theorem below_drewN {B : Nat} {w v : World} (h : Below B w v) (n : Nat) : Below B w (v.drewN n) := ⟨h.os, h.tape, h.output, h.size, h.block⟩
theorem strs_get (xs : List ByteArray) (i : Nat) : (strs xs)[i]? = (xs[i]?).map Value.string := by
  unfold strs
  rw [List.getElem?_toArray, List.getElem?_map]
theorem strs_at (xs : List ByteArray) (i : Nat) (h : i < xs.length) : (strs xs)[i]? = some (.string xs[i]) := by
  rw [strs_get, List.getElem?_eq_getElem h]; rfl
theorem strs_set (xs : List ByteArray) (i : Nat) (s : ByteArray) : (strs xs).setIfInBounds i (.string s) = strs (xs.set i s) := by
  unfold strs
  rw [List.setIfInBounds_toArray, List.map_set]
section
variable {W : World} {B : Nat} {L : Lay} {vs : List Value} {pv uv : Value} {m : Ents} {F : Nat → Prop} {S : DevS}
theorem DevAt.lg (h : DevAt W B L vs pv uv m F S) : L.g < W.heap.size := blk_lt h.hg
theorem DevAt.c0 (h : DevAt W B L vs pv uv m F S) : W.cell? ⟨L.g, 0, none⟩ = some (.slice (some ⟨L.sb, 0, none⟩) S.stable.length S.stable.length) := by rw [blk_cell h.hg]; rfl
theorem DevAt.c1 (h : DevAt W B L vs pv uv m F S) : W.cell? ⟨L.g, 1, none⟩ = some (.slice (some ⟨L.ob, 0, none⟩) S.stable.length S.stable.length) := by rw [blk_cell h.hg]; rfl
theorem DevAt.c2 (h : DevAt W B L vs pv uv m F S) : W.cell? ⟨L.g, 2, none⟩ = some pv := by rw [blk_cell h.hg]; rfl
theorem DevAt.c3 (h : DevAt W B L vs pv uv m F S) : W.cell? ⟨L.g, 3, none⟩ = some (.map (some L.bm)) := by rw [blk_cell h.hg]; rfl
theorem DevAt.c4 (h : DevAt W B L vs pv uv m F S) : W.cell? ⟨L.g, 4, none⟩ = some (.bool S.fset) := by rw [blk_cell h.hg]; rfl
theorem DevAt.c5 (h : DevAt W B L vs pv uv m F S) : W.cell? ⟨L.g, 5, none⟩ = some (.int .i64 S.left) := by rw [blk_cell h.hg]; rfl
theorem DevAt.c6 (h : DevAt W B L vs pv uv m F S) : W.cell? ⟨L.g, 6, none⟩ = some uv := by rw [blk_cell h.hg]; rfl
theorem DevAt.c7 (h : DevAt W B L vs pv uv m F S) : W.cell? ⟨L.g, 7, none⟩ = some (.bool S.failed) := by rw [blk_cell h.hg]; rfl
theorem DevAt.fg (h : DevAt W B L vs pv uv m F S) (o : Nat) : W.frozen? ⟨L.g, o, none⟩ = false := blk_frozen h.hg o
theorem DevAt.cs (h : DevAt W B L vs pv uv m F S) (i : Nat) (hi : i < S.stable.length) : W.cell? ⟨L.sb, i, none⟩ = some (.string S.stable[i]) := by rw [blk_cell h.hs]; exact strs_at _ _ hi
theorem DevAt.co (h : DevAt W B L vs pv uv m F S) (i : Nat) (hi : i < S.old.length) : ∃ A c, W.cell? ⟨L.ob, i, none⟩ = some (.slice A S.old[i].length c) ∧ S.old[i].length ≤ c ∧ Kd.F Kd.string W (Fr L pv F) A S.old[i].length S.old[i] ∧ vs[i]? = some (.slice A S.old[i].length c) := by
  have hi' : i < vs.length := by have := h.hvl; omega
  obtain ⟨A, c, hv, hl, hf⟩ := h.hv i vs[i] S.old[i] (List.getElem?_eq_getElem hi') (List.getElem?_eq_getElem hi)
  refine ⟨A, c, ?_, hl, hf, ?_⟩
  · rw [blk_cell h.ho, List.getElem?_toArray, List.getElem?_eq_getElem hi', hv]
  · rw [List.getElem?_eq_getElem hi', hv]
theorem DevAt.pslice (h : DevAt W B L vs pv uv m F S) : ∃ A c, pv = .slice A S.pend.length c ∧ S.pend.length ≤ c ∧ Kd.C k99 W A S.pend.length S.pend := Kd.R_reads h.hp
end
end Go.Proofs.Ytflajmgichdhhaa.PG
