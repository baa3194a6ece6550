/- A row of pending writes in memory; slices.IndexFunc and slices.DeleteFunc with a function that matches. -/
import Derived.Test.YtflajmgichdhhaaChange
import Derived.BigQuiet

import Derived.Lib.SliceRun
namespace Go.Proofs.Ytflajmgichdhhaa.PG
open Go.RowKit Go.Proofs.YtflajmgichdhhaaW.PrintWords Go.Proofs.YtflajmgichdhhaaW.PrintLast Go.Proofs.YtflajmgichdhhaaW.PrintMore

set_option linter.unusedVariables false
set_option linter.unusedSimpArgs false
/-- Block rb is a row for cap pending writes, the first of which are ys. -/
def RowAt (W : World) (rb cap : Nat) (ys : List S99) : Prop :=
  ∃ cur : Array Value, W.heap[rb]? = some (.cells cur 84 (0, 0)) ∧ cur.size = cap * 3 ∧ ys.length ≤ cap ∧ ∀ (j : Nat) (h : j < ys.length), cur[j * 3]? = some (.int .i64 ys[j].f0) ∧ cur[j * 3 + 1]? = some (.int .i64 ys[j].f1) ∧ cur[j * 3 + 2]? = some (.string ys[j].f2)
def rowCells (ys : List S99) : List Value := ys.flatMap fun a => [.int .i64 a.f0, .int .i64 a.f1, .string a.f2]
theorem rowCells_length (ys : List S99) : (rowCells ys).length = ys.length * 3 := by
  induction ys with
  | nil => rfl
  | cons a ys ih => unfold rowCells at ih ⊢; rw [List.flatMap_cons, List.length_append, ih, List.length_cons]; simp; omega
theorem rowCells_get : ∀ (ys : List S99) (j : Nat), (rowCells ys)[j * 3]? = (ys[j]?).map (fun a => Value.int .i64 a.f0) ∧ (rowCells ys)[j * 3 + 1]? = (ys[j]?).map (fun a => Value.int .i64 a.f1) ∧ (rowCells ys)[j * 3 + 2]? = (ys[j]?).map (fun a => Value.string a.f2)
  | [], j => by simp [rowCells]
  | a :: ys, 0 => by simp [rowCells]
  | a :: ys, j + 1 => by
    have ih := rowCells_get ys j
    unfold rowCells at ih ⊢
    rw [List.flatMap_cons]
    rw [show (j + 1) * 3 = j * 3 + 1 + 1 + 1 from by omega, show j * 3 + 1 + 1 + 1 + 1 = (j * 3 + 1) + 1 + 1 + 1 from rfl, show j * 3 + 1 + 1 + 1 + 2 = (j * 3 + 2) + 1 + 1 + 1 from rfl]
    simpa using ih
theorem RowAt.of_R {W : World} {B rb n cap : Nat} {ok : Nat → Prop} {xs : List S99} (h : Kd.R k99 84 W B ok (.slice (some ⟨rb, 0, none⟩) n cap) xs) : n = xs.length ∧ RowAt W rb cap xs ∧ B ≤ rb ∧ cap ≤ maxLen := by
  obtain ⟨A, c, hv, hle, hC⟩ := Kd.R_reads h
  injection hv with h1 h2 h3
  subst h2
  subst h3
  obtain ⟨_, inner, ho, hr⟩ := h
  rcases ho.2 with ⟨hz, _⟩ | ⟨g, cap', cur, he, hb, hh, hn, hm, hs, ht⟩
  · cases hz
  · injection he with e1 e2 e3
    injection e1 with e1
    injection e1 with e1 _ _
    subst e1
    subst e3
    refine ⟨rfl, ⟨cur, hh, hs, hn, fun j hj => ?_⟩, hb, hm⟩
    obtain ⟨ad, e, q0, q1, q2⟩ := at_T99 hC (j : Int) (by omega) (by omega)
    rw [rdT99_at xs j hj] at q0 q1 q2
    rw [← h1] at e
    cases e
    rw [Int.toNat_natCast, add_plain, blk_cell hh] at q0
    rw [Int.toNat_natCast, add_plain, blk_cell hh] at q1
    rw [Int.toNat_natCast, add_plain, blk_cell hh] at q2
    exact ⟨q0, q1, q2⟩
theorem RowAt.toR {W : World} {B rb cap : Nat} {ok : Nat → Prop} {xs : List S99} (h : RowAt W rb cap xs) (hB : B ≤ rb) (hm : cap ≤ maxLen) (hok : ok rb) : Kd.R k99 84 W B ok (.slice (some ⟨rb, 0, none⟩) xs.length cap) xs := by
  obtain ⟨cur, hh, hs, hn, hc⟩ := h
  refine ⟨fun k hk => ?_, rowCells xs, ⟨rowCells_length xs, Or.inr ⟨rb, cap, cur, rfl, hB, hh, hn, hm, hs, ?_⟩⟩, ?_⟩
  · simp [Value.ownBlock] at hk
    subst hk
    exact hok
  · show cur.toList.take (xs.length * 3) = rowCells xs
    apply List.ext_getElem?
    intro i
    rw [List.getElem?_take, Array.getElem?_toList]
    have hg := rowCells_get xs (i / 3)
    by_cases hi : i < xs.length * 3
    · rw [if_pos hi]
      have hj : i / 3 < xs.length := by omega
      have hcj := hc (i / 3) hj
      rw [List.getElem?_eq_getElem hj] at hg
      have e3 : i % 3 = 0 ∨ i % 3 = 1 ∨ i % 3 = 2 := by omega
      rcases e3 with e | e | e
      · rw [show i / 3 * 3 = i from by omega] at hcj hg
        rw [hcj.1, hg.1]; rfl
      · rw [show i / 3 * 3 + 1 = i from by omega] at hcj hg
        rw [hcj.2.1, hg.2.1]; rfl
      · rw [show i / 3 * 3 + 2 = i from by omega] at hcj hg
        rw [hcj.2.2, hg.2.2]; rfl
    · rw [if_neg hi]
      exact (List.getElem?_eq_none (by rw [rowCells_length]; omega)).symm
  · refine ⟨by rw [rowCells_length]; rfl, fun j a hj => ?_⟩
    have hg := rowCells_get xs j
    rw [hj] at hg
    have e : ((rowCells xs).drop (j * k99.sz)).take k99.sz = [.int .i64 a.f0, .int .i64 a.f1, .string a.f2] := by
      show ((rowCells xs).drop (j * 3)).take 3 = _
      apply List.ext_getElem?
      intro i
      rw [List.getElem?_take, List.getElem?_drop]
      match i with
      | 0 => simpa using hg.1
      | 1 => simpa using hg.2.1
      | 2 => simpa using hg.2.2
      | i + 3 => rw [if_neg (by omega)]; rfl
    rw [e]
    exact k99_mkM W B _ a
theorem RowAt.lt {W : World} {rb cap : Nat} {ys : List S99} (h : RowAt W rb cap ys) : rb < W.heap.size := by obtain ⟨cur, hh, _⟩ := h; exact blk_lt hh
theorem RowAt.move {W W' : World} {rb cap : Nat} {ys : List S99} (h : RowAt W rb cap ys) (hb : W'.heap[rb]? = W.heap[rb]?) : RowAt W' rb cap ys := by obtain ⟨cur, hh, r⟩ := h; exact ⟨cur, hb.trans hh, r⟩
theorem RowAt.le {W : World} {rb cap : Nat} {ys : List S99} (h : RowAt W rb cap ys) : ys.length ≤ cap := by obtain ⟨cur, hh, _, r, _⟩ := h; exact r
theorem RowAt.cells {W : World} {rb cap : Nat} {ys : List S99} (h : RowAt W rb cap ys) (j : Nat) (hj : j < ys.length) : W.cell? ⟨rb, j * 3, none⟩ = some (.int .i64 ys[j].f0) ∧ W.cell? ⟨rb, j * 3 + 1, none⟩ = some (.int .i64 ys[j].f1) ∧ W.cell? ⟨rb, j * 3 + 2, none⟩ = some (.string ys[j].f2) := by
  obtain ⟨cur, hh, _, _, hc⟩ := h
  rw [blk_cell hh, blk_cell hh, blk_cell hh]
  exact hc j hj
theorem RowAt.free {W : World} {rb cap : Nat} {ys : List S99} (h : RowAt W rb cap ys) (o : Nat) : W.frozen? ⟨rb, o, none⟩ = false := by
  obtain ⟨cur, hh, _⟩ := h
  exact blk_frozen hh o
/-- One place is written. -/
theorem RowAt.set {W : World} {rb cap : Nat} {ys : List S99} (h : RowAt W rb cap ys) (i : Nat) (hi : i < ys.length) (a : S99) :
    RowAt (((W.setCell ⟨rb, i * 3, none⟩ (.int .i64 a.f0)).setCell ⟨rb, i * 3 + 1, none⟩ (.int .i64 a.f1)).setCell ⟨rb, i * 3 + 2, none⟩ (.string a.f2)) rb cap (ys.set i a) := by
  obtain ⟨cur, hh, hs, hn, hc⟩ := h
  refine ⟨_, blk_set (blk_set (blk_set hh _ _) _ _) _ _, by simp [hs], by simpa using hn, fun j hj => ?_⟩
  rw [List.length_set] at hj
  have hcj := hc j hj
  simp only [Array.getElem?_setIfInBounds, Array.size_setIfInBounds]
  by_cases e : i = j
  · subst e
    rw [if_neg (by omega), if_neg (by omega), if_pos rfl, if_pos (by omega), if_neg (by omega), if_pos rfl, if_pos (by omega), if_pos rfl, if_pos (by omega)]
    simp
  · rw [if_neg (by omega), if_neg (by omega), if_neg (by omega), if_neg (by omega), if_neg (by omega), if_neg (by omega), if_neg (by omega), if_neg (by omega), if_neg (by omega)]
    rw [List.getElem_set_ne e]
    exact hcj
/-- What stands behind the first places is written over. -/
theorem RowAt.cut {W : World} {rb cap : Nat} {ys : List S99} (h : RowAt W rb cap ys) (i : Nat) (vs : List Value) (hi : i ≤ ys.length) (hv : i * 3 + vs.length ≤ cap * 3) : RowAt (W.setCells rb (i * 3) vs) rb cap (ys.take i) := by
  obtain ⟨cur, hh, hs, hn, hc⟩ := h
  obtain ⟨cur', hrow, hsz, hl⟩ := setCells_row vs (i * 3) W cur hh (by omega)
  have hlen : cur.toList.length = cap * 3 := by rw [Array.length_toList]; exact hs
  refine ⟨cur', hrow, by omega, by rw [List.length_take]; omega, fun j hj => ?_⟩
  rw [List.length_take] at hj
  have hcj := hc j (by omega)
  have g : ∀ q, q < i * 3 → cur'[q]? = cur[q]? := by
    intro q hq
    rw [← Array.getElem?_toList, ← Array.getElem?_toList, hl, List.append_assoc, List.getElem?_append_left (by rw [List.length_take]; omega), List.getElem?_take_of_lt hq]
  rw [List.getElem_take, g _ (by omega), g _ (by omega), g _ (by omega)]
  exact hcj
theorem zero84 (w : World) : (zeroValue 84).run Try.prog w = .ok (.agg #[.int .i64 0, .int .i64 0, .string ⟨#[]⟩]) w := by kernel_rfl
theorem zeroCells_one (n : Nat) : ∀ v ∈ (Builtin.zeroCells #[.int .i64 0, .int .i64 0, .string ⟨#[]⟩] n).toList, v.oneCell' = true := by
  intro v hv
  unfold Builtin.zeroCells at hv
  simp at hv
  obtain ⟨i, hi, rfl⟩ := hv
  have e3 : i % 3 = 0 ∨ i % 3 = 1 ∨ i % 3 = 2 := by omega
  rcases e3 with e | e | e <;> simp [e, Value.oneCell']
theorem RowAt.run_clear {W : World} {rb cap : Nat} {ys : List S99} (h : RowAt W rb cap ys) (i : Nat) (hi : i < ys.length) (ty : TypeId) (c : Nat) :
    ∃ W', (Builtin.clear_ #[76] ty #[.slice (some ⟨rb, i * 3, none⟩) (ys.length - i) c]).run Try.prog W = .ok (.tuple #[]) W' ∧ RowAt W' rb cap (ys.take i) ∧ W.grownBy W' (some rb) := by
  have hle := h.le
  have hlen : (Builtin.zeroCells #[.int .i64 0, .int .i64 0, .string ⟨#[]⟩] (ys.length - i)).toList.length = (ys.length - i) * 3 := by rw [Array.length_toList, size_zeroCells]; rfl
  refine ⟨W.setCells rb (i * 3) (Builtin.zeroCells #[.int .i64 0, .int .i64 0, .string ⟨#[]⟩] (ys.length - i)).toList, ?_, h.cut i _ (by omega) (by rw [hlen]; omega), ?_⟩
  · obtain ⟨cur, hh, hs, hn, hc⟩ := h
    have hst := run_storeCells_cells (P := Try.prog) rb (i * 3) (Builtin.zeroCells #[.int .i64 0, .int .i64 0, .string ⟨#[]⟩] (ys.length - i)).toList 0 W (fun j hj => by
      rw [hlen] at hj
      rw [blk_cell hh]
      simp
      omega) (fun j hj => blk_frozen hh _) (zeroCells_one _)
    obtain ⟨k, hk⟩ : ∃ k, ys.length - i = k + 1 := ⟨ys.length - i - 1, by omega⟩
    rw [hk] at hst ⊢
    simp only [Nat.add_zero] at hst
    simp [Builtin.clear_, run_underlying Try.underlying76, zero84, Value.cells, hst]
  · obtain ⟨s1, s2, s3, s4⟩ := setCells_same rb (Builtin.zeroCells #[.int .i64 0, .int .i64 0, .string ⟨#[]⟩] (ys.length - i)).toList (i * 3) W
    exact ⟨s1, s2, s3, by rw [s4]; exact Nat.le_refl _, fun k hk hne => setCells_far _ _ k (fun e => hne (by rw [e]))⟩
/-! ### the functions that match, IndexFunc, DeleteFunc -/
def encW (a : S99) : Value := .agg #[.int .i64 a.f0, .int .i64 a.f1, .string a.f2]
/-- The function f (with what it has captured) says p, in every world that has turned in X alone. -/
structure MatchOk (W0 : World) (X : Nat → Prop) (f : FuncId) (caps : Array Value) (p : S99 → Bool) : Prop where
  eg : ∀ args w, (callFunc f args).run Try.prog w = .ok (.enter f args) w
  say : ∀ a W, Kept W0 W X → Calls Try.prog f (#[encW a] ++ caps) W fun e W' => e = .returned (.bool (p a)) ∧ Below W.heap.size W W'
theorem MatchOk.kept {W0 W1 : World} {X : Nat → Prop} {f : FuncId} {caps : Array Value} {p : S99 → Bool} (h : MatchOk W0 X f caps p) (hk : Kept W0 W1 X) : MatchOk W1 X f caps p := ⟨h.eg, fun a W hw => h.say a W (hk.then_ hw (fun _ z => Or.inl z))⟩
theorem MatchOk.mono {W0 : World} {X Y : Nat → Prop} {f : FuncId} {caps : Array Value} {p : S99 → Bool} (h : MatchOk W0 X f caps p) (hk : ∀ k, Y k → X k ∨ W0.heap.size ≤ k) : MatchOk W0 Y f caps p := ⟨h.eg, fun a W hw => h.say a W ((Kept.refl W0 X).then_ hw hk)⟩
def IxPost (p : S99 → Bool) (xs : List S99) (r : Int) : Prop :=
  (r = -1 ∧ ∀ a ∈ xs, p a = false) ∨ ∃ (i : Nat) (h : i < xs.length), r = (i : Int) ∧ (∀ a ∈ xs.take i, p a = false) ∧ p xs[i] = true
set_option maxHeartbeats 800000 in
set_option maxRecDepth 100000 in
theorem index_calls (W : World) (f : FuncId) (caps : Array Value) (p : S99 → Bool) (X : Nat → Prop) (A : Option Addr) (cap : Nat) (xs : List S99) (hp : MatchOk W X f caps p) (hn : xs.length ≤ 4611686018427387904) (hC : Kd.C k99 W A xs.length xs) :
    Calls Try.prog 63 #[.slice A xs.length cap, .func (.func f) #[] caps] W fun e W' => ∃ r, e = .returned (.int .i64 r) ∧ IxPost p xs r ∧ Below W.heap.size W W' := by
  have HP := Aside0.mk hp
  have EG := hp.eg
  have HC := Aside0.mk hC
  have HB0 := Aside0.mk (Below.refl W.heap.size W)
  clear hp hC
  go_enter Try.func63, Try.ntmps63
  go_wp2
  go_loopg [5, 8] xs.length (fun gg _ s8 wr => ∃ i : Nat, s8 = .int .i64 i ∧ i ≤ xs.length ∧ xs.length - i ≤ gg ∧ Aside0 (∀ a ∈ xs.take i, p a = false) ∧ Aside0 (Below W.heap.size W wr))
  case atStart => exact ⟨0, by go_num, Nat.zero_le _, by omega, ⟨fun a ha => by cases ha⟩, HB0⟩
  case round =>
    obtain ⟨i, rfl, hi, hgg, HN, HF⟩ := hrel
    by_cases hlt : i < xs.length
    · have hltz : (i : Int) < (xs.length : Int) := by omega
      obtain ⟨ad, e, h0, h1, h2⟩ := at_T99 (Kd.C_below HC.out HF.out) (i : Int) (by omega) hltz
      rw [rdT99_at xs i hlt] at h0 h1 h2
      cases e
      have hcall := HP.out.say xs[i] wr (Kept.of_below HF.out X)
      unfold encW at hcall
      have HCALL := Aside0.mk hcall
      clear hcall
      rw [Int.toNat_natCast] at h0 h1 h2
      have htk : xs.take (i + 1) = xs.take i ++ [xs[i]] := List.take_succ_eq_append_getElem hlt
      have HTK := Aside0.mk htk
      clear htk
      cases hq : p xs[i] with
      | false =>
        rw [hq] at HCALL
        have HQ := Aside0.mk hq
        clear hq
        go_wp2_with fail
        with_reducible refine HCALL.out.mono ?_
        rintro e W1 ⟨rfl, hf⟩
        have HF1 := Aside0.mk (HF.out.trans (hf.mono HF.out.size))
        clear hf HCALL
        go_wp2_with fail
        go_roundg (xs.length - (i + 1))
        case measure => omega
        case rel =>
          refine ⟨i + 1, by go_num, by omega, Nat.le_refl _, ⟨fun a ha => ?_⟩, HF1⟩
          rw [HTK.out] at ha
          rcases List.mem_append.1 ha with ha | ha
          · exact HN.out a ha
          · rw [List.mem_singleton.1 ha]; exact HQ.out
      | true =>
        rw [hq] at HCALL
        have HQ := Aside0.mk hq
        clear hq
        go_wp2_with fail
        with_reducible refine HCALL.out.mono ?_
        rintro e W1 ⟨rfl, hf⟩
        have HF1 := Aside0.mk (HF.out.trans (hf.mono HF.out.size))
        clear hf HCALL
        go_wp2_with fail
        go_ret
        exact ⟨(i : Int), rfl, Or.inr ⟨i, hlt, rfl, HN.out, HQ.out⟩, HF1.out⟩
    · obtain rfl : i = xs.length := by omega
      go_wp2_with fail
      go_ret
      exact ⟨-1, rfl, Or.inl ⟨rfl, fun a ha => HN.out a (by rw [List.take_length]; exact ha)⟩, HF.out⟩
/-- In the middle: the first i places of ys are what is kept of the first j places of xs; from j on all is as it was. -/
structure KInv (q : S99 → Bool) (xs : List S99) (j i : Nat) (ys : List S99) : Prop where
  len : ys.length = xs.length
  kept : (xs.take j).filter (fun a => !q a) = ys.take i
  ij : i < j
  high : ∀ t, j ≤ t → ys[t]? = xs[t]?
theorem KInv.skip {q : S99 → Bool} {xs : List S99} {j i : Nat} {ys : List S99} (h : KInv q xs j i ys) (hj : j < xs.length) (hq : q xs[j] = true) : KInv q xs (j + 1) i ys :=
  ⟨h.len, by rw [List.take_succ_eq_append_getElem hj, List.filter_append, h.kept]; simp [hq], by have := h.ij; omega, fun t ht => h.high t (by omega)⟩
theorem KInv.keep {q : S99 → Bool} {xs : List S99} {j i : Nat} {ys : List S99} (h : KInv q xs j i ys) (hj : j < xs.length) (hq : q xs[j] = false) : KInv q xs (j + 1) (i + 1) (ys.set i xs[j]) := by
  have hij := h.ij
  have hi : i < ys.length := by have := h.len; omega
  refine ⟨by rw [List.length_set]; exact h.len, ?_, by omega, fun t ht => ?_⟩
  · rw [List.take_succ_eq_append_getElem hj, List.filter_append, h.kept, List.take_succ_eq_append_getElem (by rw [List.length_set]; exact hi), List.getElem_set_self, List.take_set_of_le (Nat.le_refl i)]
    simp [hq]
  · rw [List.getElem?_set_ne (by omega)]
    exact h.high t (by omega)
theorem KInv.start {q : S99 → Bool} {xs : List S99} {i : Nat} (hi : i < xs.length) (hn : ∀ a ∈ xs.take i, q a = false) (hq : q xs[i] = true) : KInv q xs (i + 1) i xs :=
  ⟨rfl, by
    rw [List.take_succ_eq_append_getElem hi, List.filter_append]
    have : (xs.take i).filter (fun a => !q a) = xs.take i := List.filter_eq_self.2 (fun a ha => by rw [hn a ha]; rfl)
    rw [this]
    simp [hq], by omega, fun t _ => rfl⟩
def DelPost (q : S99 → Bool) (xs : List S99) (B rb cap : Nat) (W W' : World) : Prop :=
  RowAt W' rb cap (xs.filter fun a => !q a) ∧ Kept W W' (fun k => k = rb) ∧ Below B W W'
set_option maxHeartbeats 2000000 in
set_option maxRecDepth 100000 in
theorem delfun_row (W : World) (B : Nat) (f : FuncId) (caps : Array Value) (p : S99 → Bool) (rb cap : Nat) (xs : List S99) (hp : MatchOk W (fun k => k = rb) f caps p) (hn : xs.length ≤ 4611686018427387904) (hr : RowAt W rb cap xs) (hBr : B ≤ rb) (hcm : cap ≤ maxLen) :
    Calls Try.prog 61 #[.slice (some ⟨rb, 0, none⟩) xs.length cap, .func (.func f) #[] caps] W fun e W' =>
      e = .returned (.slice (some ⟨rb, 0, none⟩) (xs.filter fun a => !p a).length cap) ∧ DelPost p xs B rb cap W W' := by
  have hBW : B ≤ W.heap.size := by have := hr.lt; omega
  have hix := index_calls W f caps p _ (some ⟨rb, 0, none⟩) cap xs hp hn (by
    obtain ⟨A, c, hv, _, hC⟩ := Kd.R_reads (hr.toR hBr hcm (ok := fun _ => True) trivial)
    cases hv
    exact hC)
  have HIX := Aside0.mk hix
  have HP := Aside0.mk hp
  have EG := hp.eg
  have HR := Aside0.mk hr
  have hle := hr.le
  have hcm' : cap ≤ 9223372036854775807 := hcm
  clear hp hr hix hcm
  go_enter Try.func61, Try.ntmps61
  go_wp2_with fail
  refine HIX.out.mono ?_
  rintro e W1 ⟨r, rfl, hpost, hf⟩
  clear HIX
  rcases hpost with ⟨rfl, hall⟩ | ⟨i0, hi0, rfl, hno, hyes⟩
  · have HALL := Aside0.mk hall
    have HF := Aside0.mk hf
    clear hall hf
    go_wp2_with fail
    go_ret
    have e1 : (xs.filter fun a => !p a) = xs := List.filter_eq_self.2 (fun a ha => by rw [HALL.out a ha]; rfl)
    rw [e1]
    refine ⟨rfl, ?_⟩
    unfold DelPost
    rw [e1]
    exact ⟨HR.out.move (HF.out.block rb HR.out.lt), Kept.of_below HF.out _, HF.out.mono hBW⟩
  · have hb1 : ((i0 : Int) == -1) = false := beq_eq_false_iff_ne.2 (by omega)
    have HI := Aside0.mk (KInv.start hi0 hno hyes)
    have HF := Aside0.mk hf
    clear hno hyes hf
    go_wp2_with fail
    go_loopg [5, 6, 7] xs.length (fun gg s5 s6 _ wr => ∃ (i j : Nat) (ys : List S99), s5 = .int .i64 i ∧ s6 = .int .i64 j ∧ j ≤ xs.length ∧ xs.length - j ≤ gg ∧ Aside0 (KInv p xs j i ys) ∧ Aside0 (RowAt wr rb cap ys) ∧ Aside0 (Kept W wr (fun k => k = rb)) ∧ Aside0 (Below B W wr))
    case atStart => exact ⟨i0, i0 + 1, xs, rfl, by go_num, by omega, by omega, HI, ⟨HR.out.move (HF.out.block rb HR.out.lt)⟩, ⟨Kept.of_below HF.out _⟩, ⟨HF.out.mono hBW⟩⟩
    case round =>
      clear HI HF
      obtain ⟨i, j, ys, rfl, rfl, hjd, hgg, HI, HRY, HK, HB⟩ := hrel
      have hij := HI.out.ij
      have hyl := HI.out.len
      have hWr := HK.out.1
      by_cases hlt : j < xs.length
      · have hltz : (j : Int) < (xs.length : Int) := by omega
        have hyj : ys[j]'(by omega) = xs[j] := by
          have := HI.out.high j (Nat.le_refl j)
          rw [List.getElem?_eq_getElem (by omega), List.getElem?_eq_getElem hlt] at this
          exact Option.some.inj this
        obtain ⟨r0, r1, r2⟩ := HRY.out.cells j (by omega)
        obtain ⟨w0, w1, w2⟩ := HRY.out.cells i (by omega)
        rw [hyj] at r0 r1 r2
        have f0 := HRY.out.free (i * 3)
        have f1 := HRY.out.free (i * 3 + 1)
        have f2 := HRY.out.free (i * 3 + 2)
        have lrb := HRY.out.lt
        have hKA : Kept W (wr.alloc (.cells #[.int .i64 xs[j].f0, .int .i64 xs[j].f1, .string xs[j].f2] 84)) (fun k => k = rb) := HK.out.alloc _
        have hcall := HP.out.say xs[j] _ hKA
        unfold encW at hcall
        have HCALL := Aside0.mk hcall
        clear hcall hKA
        cases hq : p xs[j] with
        | true =>
          rw [hq] at HCALL
          have HQ := Aside0.mk hq
          clear hq
          go_wp2_with fail
          with_reducible refine HCALL.out.mono ?_
          rintro e W2 ⟨rfl, hf⟩
          have HF1 := Aside0.mk (below_step (below_alloc (Below.refl wr.heap.size wr) (.cells #[.int .i64 xs[j].f0, .int .i64 xs[j].f1, .string xs[j].f2] 84)) hf)
          clear hf HCALL
          go_wp2_with fail
          go_roundg (xs.length - (j + 1))
          case measure => omega
          case rel =>
            have h2 := HF1.out
            exact ⟨i, j + 1, ys, rfl, by go_num, by omega, Nat.le_refl _, ⟨HI.out.skip hlt HQ.out⟩, ⟨HRY.out.move (h2.block rb HRY.out.lt)⟩, ⟨HK.out.below h2⟩, ⟨HB.out.trans (h2.mono (by omega))⟩⟩
        | false =>
          rw [hq] at HCALL
          have HQ := Aside0.mk hq
          clear hq
          go_wp2_with fail
          with_reducible refine HCALL.out.mono ?_
          rintro e W2 ⟨rfl, hf⟩
          have HF1 := Aside0.mk (below_step (below_alloc (Below.refl wr.heap.size wr) (.cells #[.int .i64 xs[j].f0, .int .i64 xs[j].f1, .string xs[j].f2] 84)) hf)
          have HR2 : Aside0 (RowAt W2 rb cap ys) := ⟨HRY.out.move (HF1.out.block rb HRY.out.lt)⟩
          have hnew := blk_below (blk_new wr (.cells #[.int .i64 xs[j].f0, .int .i64 xs[j].f1, .string xs[j].f2] 84)) hf
          have n0 : W2.cell? ⟨wr.heap.size, 0, none⟩ = some (.int .i64 xs[j].f0) := by rw [blk_cell hnew]; rfl
          have n1 : W2.cell? ⟨wr.heap.size, 1, none⟩ = some (.int .i64 xs[j].f1) := by rw [blk_cell hnew]; rfl
          have n2 : W2.cell? ⟨wr.heap.size, 2, none⟩ = some (.string xs[j].f2) := by rw [blk_cell hnew]; rfl
          obtain ⟨w20, w21, w22⟩ := HR2.out.cells i (by omega)
          have f20 := HR2.out.free (i * 3)
          have f21 := HR2.out.free (i * 3 + 1)
          have f22 := HR2.out.free (i * 3 + 2)
          clear hf HCALL hnew
          go_wp2_with fail
          go_roundg (xs.length - (j + 1))
          case measure => omega
          case rel =>
            have h2 := HF1.out
            have hK2 : Kept W W2 (fun k => k = rb) := HK.out.below h2
            have hB2 : Below B W W2 := HB.out.trans (h2.mono (by omega))
            have hR3 := HR2.out.set i (by omega) xs[j]
            exact ⟨i + 1, j + 1, ys.set i xs[j], by go_num, by go_num, by omega, Nat.le_refl _, ⟨HI.out.keep hlt HQ.out⟩, ⟨hR3⟩, ⟨((hK2.setCell (Or.inl rfl) _).setCell (Or.inl rfl) _).setCell (Or.inl rfl) _⟩, ⟨((hB2.setCell hBr _).setCell hBr _).setCell hBr _⟩⟩
      · obtain rfl : j = xs.length := by omega
        have hltz : ¬ (xs.length : Int) < (xs.length : Int) := by omega
        obtain ⟨W3, hclr, hR3, hG3⟩ := HRY.out.run_clear i (by omega) 0 (cap - i)
        rw [hyl] at hclr
        have HR3 := Aside0.mk hR3
        have HG3 := Aside0.mk hG3
        clear hR3 hG3
        go_wp2_with fail
        go_ret
        have hk := HI.out.kept
        rw [List.take_length] at hk
        have hlen : (xs.filter fun a => !p a).length = i := by rw [hk, List.length_take]; omega
        rw [hlen]
        refine ⟨rfl, ?_⟩
        unfold DelPost
        rw [hk]
        exact ⟨HR3.out, Kept.of_grown HG3.out HK.out (fun k hk => Or.inl (Option.some.inj hk).symm), HB.out.grown HG3.out (by omega) (fun k hk => by cases hk; exact hBr)⟩
set_option maxRecDepth 100000 in
theorem delfun_nil (W : World) (f : FuncId) (caps : Array Value) (p : S99 → Bool) (X : Nat → Prop) (hp : MatchOk W X f caps p) :
    Calls Try.prog 61 #[.slice none 0 0, .func (.func f) #[] caps] W fun e W' => e = .returned (.slice none 0 0) ∧ Below W.heap.size W W' := by
  have hix := index_calls W f caps p X none 0 [] hp (by simp) (Kd.C_nil _ _)
  have HIX := Aside0.mk hix
  clear hp hix
  go_enter Try.func61, Try.ntmps61
  go_wp2_with fail
  refine HIX.out.mono ?_
  rintro e W1 ⟨r, rfl, hpost, hf⟩
  clear HIX
  rcases hpost with ⟨rfl, hall⟩ | ⟨i0, hi0, _⟩
  · have HF := Aside0.mk hf
    clear hall hf
    go_wp2_with fail
    go_ret
    exact ⟨rfl, HF.out⟩
  · exact absurd hi0 (by simp)
/-- DeleteFunc on a row of one's own. -/
theorem delfun_calls (W : World) (B : Nat) (f : FuncId) (caps : Array Value) (p : S99 → Bool) (F : Nat → Prop) (pv : Value) (xs : List S99) (hp : MatchOk W F f caps p) (hn : xs.length ≤ 4611686018427387904) (hR : Kd.R k99 84 W B F pv xs) (hB : B ≤ W.heap.size) :
    Calls Try.prog 61 #[pv, .func (.func f) #[] caps] W fun e W' =>
      ∃ pv', e = .returned pv' ∧ Kd.R k99 84 W' B F pv' (xs.filter fun a => !p a) ∧ pv'.ownBlock = pv.ownBlock ∧ Kept W W' (fun k => some k = pv.ownBlock) ∧ Below B W W' := by
  obtain ⟨h0, inner, ho, hr⟩ := id hR
  rcases ho.2 with ⟨hz, he⟩ | ⟨g, cap', cur, he, hb, hh, hn', hm, hs, ht⟩
  · subst hz
    obtain rfl := List.eq_nil_of_length_eq_zero he
    refine (delfun_nil W f caps p F hp).mono ?_
    rintro e W' ⟨rfl, hb⟩
    exact ⟨_, rfl, Kd.R_nil _ _ _ _ _, rfl, Kept.of_below hb _, hb.mono hB⟩
  · subst he
    obtain ⟨_, h2, h3, h4⟩ := RowAt.of_R hR
    have hg : F g := h0 g rfl
    refine (delfun_row W B f caps p g cap' xs (hp.mono (fun k hk => Or.inl (hk ▸ hg))) hn h2 h3 h4).mono ?_
    rintro e W' ⟨rfl, h5, h6, h7⟩
    exact ⟨_, rfl, h5.toR h3 h4 hg, rfl, h6.mono (fun k hk => by rw [hk]; rfl), h7⟩
end Go.Proofs.Ytflajmgichdhhaa.PG
