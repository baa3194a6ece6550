/- The reference's pool in plain Lean. -/
import Derived.Test.YtlfmlmnpbcidnaaShare
import Derived.BigQuiet
import Derived.Test.YtlfmlmnpbcidnaaPGx4
import Derived.Test.YtlfmlmnpbcidnaaPGx5
namespace Go.Proofs.Ytlfmlmnpbcidnaa.PG
open Go.RowKit Go.Proofs.YtlfmlmnpbcidnaaW.PrintWords Go.Proofs.YtlfmlmnpbcidnaaW.PrintLast Go.Proofs.YtlfmlmnpbcidnaaW.PrintMore
set_option linter.unusedVariables false
set_option linter.unusedSimpArgs false
/-! ### the reference's pool, in plain Lean -/
theorem keep_older_none (a : S40) (ver : Int) (es : Ents) (h : a ∉ keys es) : keepEnts (older a ver) es = es := by
  refine List.filter_eq_self.2 (fun e he => ?_)
  have hne : e.1 ≠ a := fun z => h (z ▸ List.mem_map.2 ⟨e, he, rfl⟩)
  simp [older, hne]
def pg (e : S40 × Cont) : S70 := ⟨e.1, e.2.data, e.2.ver⟩
def pgs (es : Ents) : List S70 := es.map pg
theorem pgs_len (es : Ents) : (pgs es).length = es.length := List.length_map _
theorem rdT70_at (xs : List S70) (i : Nat) (h : i < xs.length) : rd_T70 xs (i : Int) = xs[i] := by
  unfold rd_T70
  rw [Int.toNat_natCast, List.getD_eq_getElem?_getD, List.getElem?_eq_getElem h]
  rfl
theorem rd_pgs (es : Ents) (i : Nat) (h : i < es.length) : rd_T70 (pgs es) (i : Int) = pg es[i] := by
  rw [rdT70_at _ _ (by rw [pgs_len]; exact h)]
  exact List.getElem_map ..
def at_ (a : S40) : Ents → Option Nat
  | [] => none
  | e :: es => if e.1 = a then some 0 else (at_ a es).map (· + 1)
theorem at_drop (a : S40) (es : Ents) (i : Nat) (h : i < es.length) : at_ a (es.drop i) = if es[i].1 = a then some 0 else (at_ a (es.drop (i + 1))).map (· + 1) := by
  rw [List.drop_eq_getElem_cons h]
  rfl
theorem wnext (i n : Nat) (h : i < n) (hn : n ≤ 9223372036854775807) : wrap64 ((i : Int) + 1) = ((i + 1 : Nat) : Int) := by rw [w64 _ (by omega) (by omega)]; omega
/-- find, from an index on. -/
theorem find_at (x0 x2 x3 : Int) (a : S40) (es : Ents) (hl : es.length ≤ 1000) : ∀ (n i : Nat), i ≤ es.length → es.length - i ≤ n →
    ∃ k, dasdref25_find.l0 k a.f0 a.f1 (i : Int) x0 (pgs es) x2 x3 = some (match at_ a (es.drop i) with | some j => ((i + j : Nat) : Int) | none => -1)
  | 0, i, hi, hn => ⟨1, by
    unfold dasdref25_find.l0
    rw [if_neg (by rw [pgs_len]; omega), show i = es.length by omega, List.drop_length]
    rfl⟩
  | n + 1, i, hi, hn => by
    by_cases h : i < es.length
    · by_cases hs : es[i].1 = a
      · refine ⟨1, ?_⟩
        unfold dasdref25_find.l0
        rw [if_pos (by rw [pgs_len]; omega), if_pos (by omega), rd_pgs es i h, at_drop a es i h, if_pos hs]
        have : ((pg es[i]).f0.f0 == a.f0 && ((pg es[i]).f0.f1 == a.f1)) = true := by
          show (es[i].1.f0 == a.f0 && (es[i].1.f1 == a.f1)) = true
          rw [hs]; simp
        rw [if_pos this]
        rfl
      · obtain ⟨k, hk⟩ := find_at x0 x2 x3 a es hl n (i + 1) (by omega) (by omega)
        refine ⟨k + 1, ?_⟩
        unfold dasdref25_find.l0
        rw [if_pos (by rw [pgs_len]; omega), if_pos (by omega), rd_pgs es i h, at_drop a es i h, if_neg hs]
        have : ¬ ((pg es[i]).f0.f0 == a.f0 && ((pg es[i]).f0.f1 == a.f1)) = true := by
          show ¬ (es[i].1.f0 == a.f0 && (es[i].1.f1 == a.f1)) = true
          rw [beqP]; simpa using hs
        rw [if_neg this, wnext i es.length h (by omega), hk]
        cases at_ a (es.drop (i + 1)) with
        | none => rfl
        | some j => show some _ = some _; congr 1; show ((i + 1 + j : Nat) : Int) = ((i + (j + 1) : Nat) : Int); omega
    · exact ⟨1, by
        unfold dasdref25_find.l0
        rw [if_neg (by rw [pgs_len]; omega), show i = es.length by omega, List.drop_length]
        rfl⟩
theorem find_is (x0 x2 x3 : Int) (a : S40) (es : Ents) (hl : es.length ≤ 1000) : ∃ k, dasdref25_find.f k x0 (pgs es) x2 x3 a.f0 a.f1 = some (match at_ a es with | some j => (j : Int) | none => -1) := by
  obtain ⟨k, hk⟩ := find_at x0 x2 x3 a es hl es.length 0 (Nat.zero_le _) (by omega)
  refine ⟨k, ?_⟩
  unfold dasdref25_find.f
  rw [List.drop_zero] at hk
  rw [show ((0 : Nat) : Int) = 0 from rfl] at hk
  rw [hk]
  cases at_ a es with
  | none => rfl
  | some j => simp
theorem at_look (a : S40) : ∀ es : Ents, (keys es).Nodup → match at_ a es with
    | none => look a es = none
    | some j => ∃ (h : j < es.length), es[j].1 = a ∧ look a es = some es[j].2 ∧ keepEnts (isAt a) es = es.take j ++ es.drop (j + 1)
  | [], _ => rfl
  | e :: es, hn => by
    obtain ⟨h1, h2⟩ := List.nodup_cons.1 (show (e.1 :: keys es).Nodup from hn)
    have ih := at_look a es h2
    unfold at_
    by_cases h : e.1 = a
    · rw [if_pos h]
      refine ⟨by simp, h, by simp only [look]; rw [if_pos h]; rfl, ?_⟩
      have := keep_head e es hn
      rw [h] at this
      rw [this]
      simp
    · rw [if_neg h]
      cases hj : at_ a es with
      | none =>
        rw [hj] at ih
        show look a (e :: es) = none
        simp only [look]; rw [if_neg h]; exact ih
      | some j =>
        rw [hj] at ih
        obtain ⟨i1, i2, i3, i4⟩ := ih
        refine ⟨by simp; omega, by simpa using i2, by simp only [look]; rw [if_neg h]; simpa using i3, ?_⟩
        show keepEnts _ (e :: es) = _
        unfold keepEnts at i4 ⊢
        rw [List.filter_cons, if_pos (by simp [isAt, h]), i4]
        simp
theorem pgs_append (a b : Ents) : pgs (a ++ b) = pgs a ++ pgs b := List.map_append
theorem remove_is (x0 x2 x3 : Int) (es : Ents) (j : Nat) (hj : j < es.length) (hl : es.length ≤ 1000) : dasdref25_remove.f x0 (pgs es) x2 x3 (j : Int) = some (x0, pgs (es.take j ++ es.drop (j + 1)), x2, x3) := by
  have hp := pgs_len es
  have h1 : ([] : List S70).length + ((pgs es).take j).length < 3518437208883 := by rw [List.length_nil, List.length_take]; omega
  have h2 : (([] : List S70) ++ (pgs es).take j).length + ((pgs es).drop (j + 1)).length < 3518437208883 := by rw [List.nil_append, List.length_take, List.length_drop]; omega
  have e1 : (0 : Int) ≤ (j : Int) := by omega
  have e2 : (j : Int) ≤ ((pgs es).length : Int) := by omega
  have e3 : (0 : Int) ≤ ((j + 1 : Nat) : Int) := by omega
  have e4 : ((j + 1 : Nat) : Int) ≤ ((pgs es).length : Int) := by omega
  have hend : ([] : List S70) ++ (pgs es).take j ++ (pgs es).drop (j + 1) = pgs (es.take j ++ es.drop (j + 1)) := by
    rw [List.nil_append, pgs_append]
    unfold pgs
    rw [List.map_take, List.map_drop]
  unfold dasdref25_remove.f
  rw [Option.bind_some, if_pos e1, if_pos e2, Option.bind_some, Int.toNat_natCast, if_pos h1, Option.bind_some, wnext j es.length hj (by omega), if_pos e3, if_pos e4, Option.bind_some, Int.toNat_natCast, if_pos h2, hend]
theorem get_is (a : S40) (S : PoolS) (hl : S.ents.length ≤ 8) (hn : (keys S.ents).Nodup) (h0 : 0 ≤ S.hits ∧ S.hits ≤ 1000) (m0 : 0 ≤ S.miss ∧ S.miss ≤ 1000) :
    ∃ k, dasdref25_Get.f k S.cap (pgs S.ents) S.hits S.miss a.f0 a.f1 = some ((getS a S).cap, pgs (getS a S).ents, (getS a S).hits, (getS a S).miss, (getR a S).1.data, (getR a S).1.ver, (getR a S).2) := by
  obtain ⟨k, hk⟩ := find_is S.cap S.hits S.miss a S.ents (by omega)
  have ha := at_look a S.ents hn
  refine ⟨k, ?_⟩
  unfold dasdref25_Get.f
  rw [hk, Option.bind_some]
  unfold getS getR
  cases hj : at_ a S.ents with
  | none =>
    rw [hj] at ha
    have ha' : look a S.ents = none := ha
    rw [if_pos (by simp), ha', w64 _ (by omega) (by omega)]
    rfl
  | some j =>
    rw [hj] at ha
    obtain ⟨i1, i2, i3, i4⟩ := ha
    have hp := pgs_len S.ents
    simp only [i3]
    rw [if_neg (by omega), if_pos (by omega), if_pos (by omega), remove_is _ _ _ _ j i1 (by omega), rd_pgs _ j i1]
    simp only [Option.bind_some]
    rw [if_pos (by simp [pgs_len]; omega), if_pos (by simp [pgs_len]; omega), w64 _ (by omega) (by omega)]
    show some _ = some ((used a S.ents[j].2 (hit S)).cap, pgs (usedEnts a S.ents[j].2 S.ents), S.hits + 1, S.miss, _, _, _)
    rw [usedEnts, i4, pgs_append, pgs_append]
    have : (⟨⟨(pg S.ents[j]).f0.f0, (pg S.ents[j]).f0.f1⟩, (pg S.ents[j]).f1, (pg S.ents[j]).f2⟩ : S70) = pg (a, S.ents[j].2) := by
      show (⟨⟨S.ents[j].1.f0, S.ents[j].1.f1⟩, _, _⟩ : S70) = ⟨a, _, _⟩
      rw [i2]
      rfl
    rw [this]
    simp [pgs, used, hit]
    exact ⟨rfl, rfl⟩
theorem keep_isAt_none (a : S40) (es : Ents) (h : look a es = none) : keepEnts (isAt a) es = es := by
  refine List.filter_eq_self.2 (fun e he => ?_)
  have hne : e.1 ≠ a := fun z => by
    obtain ⟨c, h1, _⟩ := look_mem a es (by rw [← z]; exact List.mem_map.2 ⟨e, he, rfl⟩)
    rw [h] at h1; cases h1
  simp [isAt, hne]
theorem keep_older_some (a : S40) (ver : Int) (c : Cont) (es : Ents) (hn : (keys es).Nodup) (h : look a es = some c) : keepEnts (older a ver) es = if c.ver < ver then keepEnts (isAt a) es else es := by
  by_cases hv : c.ver < ver
  · rw [if_pos hv]
    unfold keepEnts
    refine List.filter_congr (fun e he => ?_)
    by_cases hea : e.1 = a
    · have := look_self es e hn he
      rw [hea, h] at this
      have hc : c = e.2 := Option.some.inj this
      simp [older, isAt, hea, ← hc, hv]
    · simp [older, isAt, hea]
  · rw [if_neg hv]
    refine List.filter_eq_self.2 (fun e he => ?_)
    by_cases hea : e.1 = a
    · have := look_self es e hn he
      rw [hea, h] at this
      have hc : c = e.2 := Option.some.inj this
      simp [older, ← hc, hv]
    · simp [older, hea]
theorem tail_is (x0 x2 x3 : Int) (es : Ents) (h0 : 0 < es.length) (hl : es.length ≤ 1000) : dasdref25_remove.f x0 (pgs es) x2 x3 0 = some (x0, pgs es.tail, x2, x3) := by
  have := remove_is x0 x2 x3 es 0 h0 hl
  rw [show ((0 : Nat) : Int) = 0 from rfl] at this
  rw [this]
  simp
theorem put_end (a : S40) (c : Cont) (S : PoolS) (hl : S.ents.length ≤ 8) (ys : List S70) (hy : ys = pgs (keepEnts (isAt a) S.ents)) :
    (if ([] : List S70).length + ys.length < 3518437208883 then ((some (([] : List S70) ++ ys : List S70)).bind fun y173 => (if y173.length < 3518437208883 then ((some (y173 ++ [(⟨(⟨a.f0, a.f1⟩ : S40), c.data, c.ver⟩ : S70)] : List S70)).bind fun y176 => (if (y176.length : Int) > S.cap then ((dasdref25_remove.f S.cap y176 S.hits S.miss 0).bind fun bt179 => (some (bt179.1, bt179.2.1, bt179.2.2.1, bt179.2.2.2))) else (some (S.cap, y176, S.hits, S.miss)))) else none)) else none) = some ((putS a c S).cap, pgs (putS a c S).ents, (putS a c S).hits, (putS a c S).miss) := by
  subst hy
  have hk : (keepEnts (isAt a) S.ents).length ≤ S.ents.length := List.length_filter_le _ _
  have hp := pgs_len (keepEnts (isAt a) S.ents)
  have h1 : ([] : List S70).length + (pgs (keepEnts (isAt a) S.ents)).length < 3518437208883 := by rw [List.length_nil]; omega
  have h2 : (([] : List S70) ++ pgs (keepEnts (isAt a) S.ents)).length < 3518437208883 := by rw [List.nil_append]; omega
  have he : ([] : List S70) ++ pgs (keepEnts (isAt a) S.ents) ++ [(⟨(⟨a.f0, a.f1⟩ : S40), c.data, c.ver⟩ : S70)] = pgs (usedEnts a c S.ents) := by rw [List.nil_append, usedEnts, pgs_append]; rfl
  have hu : (usedEnts a c S.ents).length = (keepEnts (isAt a) S.ents).length + 1 := by simp [usedEnts]
  rw [if_pos h1, Option.bind_some, if_pos h2, Option.bind_some, he, pgs_len]
  show _ = some (S.cap, pgs (if S.cap < ((usedEnts a c S.ents).length : Int) then (usedEnts a c S.ents).tail else usedEnts a c S.ents), S.hits, S.miss)
  by_cases hc : S.cap < ((usedEnts a c S.ents).length : Int)
  · rw [if_pos hc, if_pos hc, tail_is _ _ _ _ (by omega) (by omega)]
    rfl
  · rw [if_neg hc, if_neg hc]
theorem put_is (a : S40) (c : Cont) (S : PoolS) (hl : S.ents.length ≤ 8) (hn : (keys S.ents).Nodup) :
    ∃ k, dasdref25_Put.f k S.cap (pgs S.ents) S.hits S.miss a.f0 a.f1 c.data c.ver = some ((putS a c S).cap, pgs (putS a c S).ents, (putS a c S).hits, (putS a c S).miss) := by
  obtain ⟨k, hk⟩ := find_is S.cap S.hits S.miss a S.ents (by omega)
  have ha := at_look a S.ents hn
  refine ⟨k, ?_⟩
  unfold dasdref25_Put.f
  rw [hk, Option.bind_some]
  cases hj : at_ a S.ents with
  | none =>
    rw [hj] at ha
    have ha' : look a S.ents = none := ha
    rw [if_neg (by simp), Option.bind_some]
    exact put_end a c S hl _ (by rw [keep_isAt_none a _ ha'])
  | some j =>
    rw [hj] at ha
    obtain ⟨i1, i2, i3, i4⟩ := ha
    have hge : (match some j with | some j => (j : Int) | none => -1) ≥ 0 := Int.natCast_nonneg j
    rw [if_pos hge]
    show Option.bind (dasdref25_remove.f S.cap (pgs S.ents) S.hits S.miss (j : Int)) _ = _
    rw [remove_is _ _ _ _ j i1 (by omega), Option.bind_some, Option.bind_some]
    exact put_end a c S hl _ (by rw [i4])
theorem inv_is (a : S40) (ver : Int) (S : PoolS) (hl : S.ents.length ≤ 8) (hn : (keys S.ents).Nodup) :
    ∃ k, dasdref25_Invalidate.f k S.cap (pgs S.ents) S.hits S.miss a.f0 a.f1 ver = some (S.cap, pgs (forgot (older a ver) S).ents, S.hits, S.miss, decide ((keepEnts (older a ver) S.ents).length < S.ents.length)) := by
  obtain ⟨k, hk⟩ := find_is S.cap S.hits S.miss a S.ents (by omega)
  have ha := at_look a S.ents hn
  refine ⟨k, ?_⟩
  unfold dasdref25_Invalidate.f
  rw [hk, Option.bind_some]
  show _ = some (S.cap, pgs (keepEnts (older a ver) S.ents), S.hits, S.miss, _)
  cases hj : at_ a S.ents with
  | none =>
    rw [hj] at ha
    have ha' : look a S.ents = none := ha
    have hnk : a ∉ keys S.ents := fun h => by obtain ⟨c, h1, _⟩ := look_mem _ _ h; rw [ha'] at h1; cases h1
    rw [if_pos (by simp), keep_older_none a ver _ hnk]
    simp
  | some j =>
    rw [hj] at ha
    obtain ⟨i1, i2, i3, i4⟩ := ha
    have hp := pgs_len S.ents
    rw [keep_older_some a ver _ _ hn i3]
    show (if (j : Int) < 0 then _ else if 0 ≤ (j : Int) then (if (j : Int) < _ then (if (rd_T70 (pgs S.ents) (j : Int)).f2 ≥ ver then _ else Option.bind (dasdref25_remove.f S.cap (pgs S.ents) S.hits S.miss (j : Int)) _) else none) else none) = _
    rw [if_neg (by omega), if_pos (by omega), if_pos (by omega), rd_pgs _ j i1]
    by_cases hv : S.ents[j].2.ver < ver
    · rw [if_pos hv, if_neg (by show ¬ S.ents[j].2.ver ≥ ver; omega), remove_is _ _ _ _ j i1 (by omega), Option.bind_some, ← i4]
      have := keep_lt a S.ents (look_in i3)
      rw [decide_eq_true this]
    · rw [if_neg hv, if_pos (by show S.ents[j].2.ver ≥ ver; omega)]
      simp
theorem filter_take_snoc (p : S40 × Cont → Bool) (es : Ents) (j : Nat) (h : j < es.length) : (es.take (j + 1)).filter p = (es.take j).filter p ++ (if p es[j] = true then [es[j]] else []) := by
  rw [List.take_succ_eq_append_getElem h, List.filter_append]
  congr 1
  rw [List.filter_cons]
  split <;> rfl
theorem drop_at (x0 x2 x3 id : Int) (es : Ents) (hl : es.length ≤ 8) : ∀ (n i : Nat), i ≤ es.length → es.length - i ≤ n →
    ∃ k, dasdref25_Drop.l0 k id (pgs (keepEnts (hasId id) (es.take i))) (i : Int) x0 (pgs es) x2 x3 = some (x0, pgs (keepEnts (hasId id) es), x2, x3, (es.length : Int) - ((keepEnts (hasId id) es).length : Int)) := by
  have hfin : ∀ i, i = es.length → ∃ k, dasdref25_Drop.l0 k id (pgs (keepEnts (hasId id) (es.take i))) (i : Int) x0 (pgs es) x2 x3 = some (x0, pgs (keepEnts (hasId id) es), x2, x3, (es.length : Int) - ((keepEnts (hasId id) es).length : Int)) := by
    intro i hi
    subst hi
    have hk : (keepEnts (hasId id) es).length ≤ es.length := List.length_filter_le _ _
    refine ⟨1, ?_⟩
    unfold dasdref25_Drop.l0
    rw [if_neg (by rw [pgs_len]; omega), List.take_length, pgs_len, pgs_len, w64 _ (by omega) (by omega)]
  intro n
  induction n with
  | zero => intro i hi hn; exact hfin i (by omega)
  | succ n ih =>
    intro i hi hn
    by_cases h : i < es.length
    · obtain ⟨k, hk⟩ := ih (i + 1) (by omega) (by omega)
      refine ⟨k + 1, ?_⟩
      have hkl : (keepEnts (hasId id) (es.take i)).length ≤ 8 := Nat.le_trans (List.length_filter_le _ _) (by rw [List.length_take]; omega)
      have hs := filter_take_snoc (fun e => !hasId id e.1 e.2) es i h
      unfold dasdref25_Drop.l0
      rw [if_pos (by rw [pgs_len]; omega), if_pos (by omega), rd_pgs es i h, wnext i es.length h (by omega)]
      by_cases hq : es[i].1.f0 = id
      · rw [if_pos (show (pg es[i]).f0.f0 = id from hq)]
        have : keepEnts (hasId id) (es.take (i + 1)) = keepEnts (hasId id) (es.take i) := by
          unfold keepEnts; rw [hs, if_neg (by simp [hasId, hq])]; simp
        rw [this] at hk
        exact hk
      · rw [if_neg (show ¬ (pg es[i]).f0.f0 = id from hq), if_pos (by rw [pgs_len]; omega)]
        have : keepEnts (hasId id) (es.take (i + 1)) = keepEnts (hasId id) (es.take i) ++ [es[i]] := by
          unfold keepEnts; rw [hs, if_pos (by simp [hasId, hq])]
        rw [this, pgs_append] at hk
        exact hk
    · exact hfin i (by omega)
theorem drop_is (id : Int) (S : PoolS) (hl : S.ents.length ≤ 8) :
    ∃ k, dasdref25_Drop.f k S.cap (pgs S.ents) S.hits S.miss id = some (S.cap, pgs (forgot (hasId id) S).ents, S.hits, S.miss, (S.ents.length : Int) - ((keepEnts (hasId id) S.ents).length : Int)) :=
  drop_at S.cap S.hits S.miss id S.ents hl S.ents.length 0 (Nat.zero_le _) (by omega)
end Go.Proofs.Ytlfmlmnpbcidnaa.PG
