/- A row of places in memory, cell by cell: read, one place written, cut off behind a place. -/
import Derived.Test.YtlfmlmnpbcidnaaMap
namespace Go.Proofs.Ytlfmlmnpbcidnaa.PG
open Go.RowKit Go.Proofs.YtlfmlmnpbcidnaaW.PrintWords Go.Proofs.YtlfmlmnpbcidnaaW.PrintLast Go.Proofs.YtlfmlmnpbcidnaaW.PrintMore
set_option linter.unusedVariables false
set_option linter.unusedSimpArgs false

theorem rdT40_at (xs : List S40) (i : Nat) (h : i < xs.length) : rd_T40 xs (i : Int) = xs[i] := by
  unfold rd_T40
  rw [Int.toNat_natCast, List.getD_eq_getElem?_getD, List.getElem?_eq_getElem h]
  rfl
/-- Block rb is a row for cap places, the first of which are ys. -/
def RowAt (W : World) (rb cap : Nat) (ys : List S40) : Prop :=
  ∃ cur : Array Value, W.heap[rb]? = some (.cells cur 40 (0, 0)) ∧ cur.size = cap * 2 ∧ ys.length ≤ cap ∧ ∀ (j : Nat) (h : j < ys.length), cur[j * 2]? = some (.int .i64 ys[j].f0) ∧ cur[j * 2 + 1]? = some (.int .i64 ys[j].f1)
def rowCells (ys : List S40) : List Value := ys.flatMap fun a => [.int .i64 a.f0, .int .i64 a.f1]
theorem rowCells_length (ys : List S40) : (rowCells ys).length = ys.length * 2 := by
  induction ys with
  | nil => rfl
  | cons a ys ih => unfold rowCells at ih ⊢; rw [List.flatMap_cons, List.length_append, ih, List.length_cons]; simp; omega
theorem rowCells_get : ∀ (ys : List S40) (j : Nat), (rowCells ys)[j * 2]? = (ys[j]?).map (fun a => Value.int .i64 a.f0) ∧ (rowCells ys)[j * 2 + 1]? = (ys[j]?).map (fun a => Value.int .i64 a.f1)
  | [], j => by simp [rowCells]
  | a :: ys, 0 => by simp [rowCells]
  | a :: ys, j + 1 => by
    have ih := rowCells_get ys j
    unfold rowCells at ih ⊢
    rw [List.flatMap_cons]
    rw [show (j + 1) * 2 = j * 2 + 1 + 1 from by omega, show j * 2 + 1 + 1 + 1 = (j * 2 + 1) + 1 + 1 from rfl]
    simpa using ih
theorem RowAt.of_R {W : World} {B rb n cap : Nat} {ok : Nat → Prop} {xs : List S40} (h : Kd.R k40 40 W B ok (.slice (some ⟨rb, 0, none⟩) n cap) xs) : n = xs.length ∧ RowAt W rb cap xs ∧ B ≤ rb ∧ cap ≤ maxLen := by
  obtain ⟨A, c, hv, hle, hC⟩ := Kd.R_reads h
  injection hv with h1 h2 h3
  subst h2
  subst h3
  obtain ⟨_, inner, ho, hr⟩ := h
  rcases ho.2 with ⟨hz, _⟩ | ⟨g, cap', cur, he, hb, hh, hn, hm, hs, ht⟩
  · cases hz
  · injection he with e1 e2 e3
    injection e1 with e1
    injection e1 with e1 _ _
    subst e1
    subst e3
    refine ⟨rfl, ⟨cur, hh, hs, hn, fun j hj => ?_⟩, hb, hm⟩
    obtain ⟨ad, e, q0, q1⟩ := at_T40 hC (j : Int) (by omega) (by omega)
    rw [rdT40_at xs j hj] at q0 q1
    rw [← h1] at e
    cases e
    rw [Int.toNat_natCast, add_plain, blk_cell hh] at q0
    rw [Int.toNat_natCast, add_plain, blk_cell hh] at q1
    exact ⟨q0, q1⟩
theorem RowAt.toR {W : World} {B rb cap : Nat} {ok : Nat → Prop} {xs : List S40} (h : RowAt W rb cap xs) (hB : B ≤ rb) (hm : cap ≤ maxLen) (hok : ok rb) : Kd.R k40 40 W B ok (.slice (some ⟨rb, 0, none⟩) xs.length cap) xs := by
  obtain ⟨cur, hh, hs, hn, hc⟩ := h
  refine ⟨fun k hk => ?_, rowCells xs, ⟨rowCells_length xs, Or.inr ⟨rb, cap, cur, rfl, hB, hh, hn, hm, hs, ?_⟩⟩, ?_⟩
  · simp [Value.ownBlock] at hk
    subst hk
    exact hok
  · show cur.toList.take (xs.length * 2) = rowCells xs
    apply List.ext_getElem?
    intro i
    rw [List.getElem?_take, Array.getElem?_toList]
    have hg := rowCells_get xs (i / 2)
    by_cases hi : i < xs.length * 2
    · rw [if_pos hi]
      have hj : i / 2 < xs.length := by omega
      have hcj := hc (i / 2) hj
      rw [List.getElem?_eq_getElem hj] at hg
      rcases Nat.mod_two_eq_zero_or_one i with e | e
      · rw [show i / 2 * 2 = i from by omega] at hcj hg
        rw [hcj.1, hg.1]; rfl
      · rw [show i / 2 * 2 + 1 = i from by omega] at hcj hg
        rw [hcj.2, hg.2]; rfl
    · rw [if_neg hi]
      exact (List.getElem?_eq_none (by rw [rowCells_length]; omega)).symm
  · refine ⟨by rw [rowCells_length]; rfl, fun j a hj => ?_⟩
    have hg := rowCells_get xs j
    rw [hj] at hg
    have e : ((rowCells xs).drop (j * k40.sz)).take k40.sz = [.int .i64 a.f0, .int .i64 a.f1] := by
      show ((rowCells xs).drop (j * 2)).take 2 = _
      apply List.ext_getElem?
      intro i
      rw [List.getElem?_take, List.getElem?_drop]
      match i with
      | 0 => simpa using hg.1
      | 1 => simpa using hg.2
      | i + 2 => rw [if_neg (by omega)]; rfl
    rw [e]
    exact k40_mkM W B _ a
theorem RowAt.lt {W : World} {rb cap : Nat} {ys : List S40} (h : RowAt W rb cap ys) : rb < W.heap.size := by obtain ⟨cur, hh, _⟩ := h; exact blk_lt hh
theorem RowAt.move {W W' : World} {rb cap : Nat} {ys : List S40} (h : RowAt W rb cap ys) (hb : W'.heap[rb]? = W.heap[rb]?) : RowAt W' rb cap ys := by obtain ⟨cur, hh, r⟩ := h; exact ⟨cur, hb.trans hh, r⟩
theorem RowAt.le {W : World} {rb cap : Nat} {ys : List S40} (h : RowAt W rb cap ys) : ys.length ≤ cap := by obtain ⟨cur, hh, _, r, _⟩ := h; exact r
theorem RowAt.cells {W : World} {rb cap : Nat} {ys : List S40} (h : RowAt W rb cap ys) (j : Nat) (hj : j < ys.length) : W.cell? ⟨rb, j * 2, none⟩ = some (.int .i64 ys[j].f0) ∧ W.cell? ⟨rb, j * 2 + 1, none⟩ = some (.int .i64 ys[j].f1) := by
  obtain ⟨cur, hh, _, _, hc⟩ := h
  rw [blk_cell hh, blk_cell hh]
  exact hc j hj
theorem RowAt.free {W : World} {rb cap : Nat} {ys : List S40} (h : RowAt W rb cap ys) (o : Nat) : W.frozen? ⟨rb, o, none⟩ = false := by
  obtain ⟨cur, hh, _⟩ := h
  exact blk_frozen hh o
theorem RowAt.ne {W : World} {rb cap k : Nat} {ys : List S40} {cs : Array Value} {t : TypeId} (h : RowAt W rb cap ys) (hk : W.heap[k]? = some (.cells cs t (0, 0))) (ht : t ≠ 40) : k ≠ rb := by
  obtain ⟨cur, hh, _⟩ := h
  exact blk_ne hk hh ht
theorem RowAt.ne_map {W : World} {rb cap bm : Nat} {ys : List S40} {m : Ents} (h : RowAt W rb cap ys) (hm : MapIs W bm m) : rb ≠ bm := by
  obtain ⟨cur, hh, _⟩ := h
  obtain ⟨es, c, hb, _⟩ := hm
  rintro rfl
  rw [hh] at hb
  cases hb
/-- One place is written. -/
theorem RowAt.set {W : World} {rb cap : Nat} {ys : List S40} (h : RowAt W rb cap ys) (i : Nat) (hi : i < ys.length) (a : S40) :
    RowAt ((W.setCell ⟨rb, i * 2, none⟩ (.int .i64 a.f0)).setCell ⟨rb, i * 2 + 1, none⟩ (.int .i64 a.f1)) rb cap (ys.set i a) := by
  obtain ⟨cur, hh, hs, hn, hc⟩ := h
  refine ⟨_, blk_set (blk_set hh _ _) _ _, by simp [hs], by simpa using hn, fun j hj => ?_⟩
  rw [List.length_set] at hj
  have hcj := hc j hj
  simp only [Array.getElem?_setIfInBounds, Array.size_setIfInBounds]
  by_cases e : i = j
  · subst e
    rw [if_neg (by omega), if_pos rfl, if_pos (by omega), if_pos rfl, if_pos (by omega)]
    simp
  · rw [if_neg (by omega), if_neg (by omega), if_neg (by omega), if_neg (by omega)]
    rw [List.getElem_set_ne e]
    exact hcj
/-- What stands behind the first places is written over. -/
theorem RowAt.cut {W : World} {rb cap : Nat} {ys : List S40} (h : RowAt W rb cap ys) (i : Nat) (vs : List Value) (hi : i ≤ ys.length) (hv : i * 2 + vs.length ≤ cap * 2) : RowAt (W.setCells rb (i * 2) vs) rb cap (ys.take i) := by
  obtain ⟨cur, hh, hs, hn, hc⟩ := h
  obtain ⟨cur', hrow, hsz, hl⟩ := setCells_row vs (i * 2) W cur hh (by omega)
  have hlen : cur.toList.length = cap * 2 := by rw [Array.length_toList]; exact hs
  refine ⟨cur', hrow, by omega, by rw [List.length_take]; omega, fun j hj => ?_⟩
  rw [List.length_take] at hj
  have hcj := hc j (by omega)
  have g : ∀ q, q < i * 2 → cur'[q]? = cur[q]? := by
    intro q hq
    rw [← Array.getElem?_toList, ← Array.getElem?_toList, hl, List.append_assoc, List.getElem?_append_left (by rw [List.length_take]; omega), List.getElem?_take_of_lt hq]
  rw [List.getElem_take, g _ (by omega), g _ (by omega)]
  exact hcj
end Go.Proofs.Ytlfmlmnpbcidnaa.PG
