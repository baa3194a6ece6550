/- What the laws' walks share. -/
import Derived.Test.YtlfmlmnpbcidnaaAwake
import Derived.BigQuiet
import Derived.Test.YtlfmlmnpbcidnaaPGx5
namespace Go.Proofs.Ytlfmlmnpbcidnaa.PG
open Go.RowKit Go.Proofs.YtlfmlmnpbcidnaaW.PrintWords Go.Proofs.YtlfmlmnpbcidnaaW.PrintLast Go.Proofs.YtlfmlmnpbcidnaaW.PrintMore
set_option linter.unusedVariables false
set_option linter.unusedSimpArgs false
/-! ### what the laws' walks share -/
theorem w64 (n : Int) (h0 : -9223372036854775808 ≤ n) (h1 : n ≤ 9223372036854775807) : wrap64 n = n := by unfold wrap64; omega
theorem few_at (l : List S38) (hl : l.length ≤ maxLen) : ∀ (n i : Nat), i ≤ l.length → l.length - i ≤ n → ∃ k r, dasdref25_Few.l0 k l 60 (i : Int) = some r ∧ (r = true → l.length ≤ 60)
  | 0, i, hi, hn => ⟨1, _, by unfold dasdref25_Few.l0; rw [if_neg (by omega)], fun h => by have := of_decide_eq_true h; omega⟩
  | n + 1, i, hi, hn => by
    by_cases h : i < l.length
    · have hw : wrap64 ((i : Int) + 1) = ((i + 1 : Nat) : Int) := by
        have : l.length ≤ 9223372036854775807 := hl
        rw [w64 _ (by omega) (by omega)]; omega
      by_cases hs : (((rd_T38 l i).f4).size : Int) > 100
      · exact ⟨1, false, by unfold dasdref25_Few.l0; rw [if_pos (by omega), if_pos (by omega), if_pos hs], fun h => by cases h⟩
      · obtain ⟨k, r, h1, h2⟩ := few_at l hl n (i + 1) (by omega) (by omega)
        exact ⟨k + 1, r, by unfold dasdref25_Few.l0; rw [if_pos (by omega), if_pos (by omega), if_neg hs, hw]; exact h1, h2⟩
    · exact ⟨1, _, by unfold dasdref25_Few.l0; rw [if_neg (by omega)], fun h => by have := of_decide_eq_true h; omega⟩
theorem few_calls (W : World) (a : Option Addr) (c : Nat) (l : List S38) (hr : Kd.C k38 W a l.length l) (hc : l.length ≤ c) (hl : c ≤ maxLen) :
    Calls Try.prog 15 #[.slice a l.length c, .int .i64 60] W fun e W' => ∃ r, e = .returned (.bool r) ∧ (r = true → l.length ≤ 60) ∧ Below W.heap.size W W' := by
  obtain ⟨k, r, h1, h2⟩ := few_at l (Nat.le_trans hc hl) l.length 0 (Nat.zero_le _) (by omega)
  refine (dasdref25_Few.calls k a c l 60 r W hr hc h1).mono ?_
  rintro e W' ⟨rfl, hd⟩
  exact ⟨r, rfl, h2, hd.below⟩
theorem PoolIs.lower {W : World} {B B' g : Nat} {F : Nat → Prop} {S : PoolS} (h : PoolIs W B g F S) (hb : B' ≤ B) : PoolIs W B' g F S := by
  obtain ⟨bm, v, m, h⟩ := h
  exact ⟨bm, v, m, { h with
    row := by
      rcases h.row with hr | ⟨rb, cap, e1, e2, e3, e4, e5⟩
      · exact Or.inl hr
      · exact Or.inr ⟨rb, cap, e1, e2, Nat.le_trans hb e3, e4, e5⟩
    hr := fun k hk => ⟨Nat.le_trans hb (h.hr k hk).1, (h.hr k hk).2⟩ }⟩
def runS (l : List S38) (S : PoolS) : PoolS := l.foldl (fun S o => doS o S) S
theorem runS_snoc (l : List S38) (i : Nat) (h : i < l.length) (S : PoolS) : runS (l.take (i + 1)) S = doS l[i] (runS (l.take i) S) := by
  unfold runS
  rw [List.take_succ_eq_append_getElem h, List.foldl_append]
  rfl
theorem rdT38_at (xs : List S38) (i : Nat) (h : i < xs.length) : rd_T38 xs (i : Int) = xs[i] := by
  unfold rd_T38
  rw [Int.toNat_natCast, List.getD_eq_getElem?_getD, List.getElem?_eq_getElem h]
  rfl
/-- One round of a loop that only calls. -/
theorem do_round (W wr : World) (g i : Nat) (F : Nat → Prop) (S0 : PoolS) (l : List S38) (hlt : i < l.length) (hk : i < 1000) (hP : PoolIs wr W.heap.size g F (runS (l.take i) S0)) (hF : Fine i (runS (l.take i) S0)) (hB : Below W.heap.size W wr) :
    Calls Try.prog 18 #[.pointer (some ⟨g, 0, none⟩), .agg #[.int .i64 l[i].f0, .int .i64 l[i].f1, .int .i64 l[i].f2, .int .i64 l[i].f3, .string l[i].f4]] (wr.alloc (.cells #[.int .i64 l[i].f0, .int .i64 l[i].f1, .int .i64 l[i].f2, .int .i64 l[i].f3, .string l[i].f4] 38)) fun e W' =>
      e = .returned (.tuple #[]) ∧ ∃ F', PoolIs W' W.heap.size g F' (runS (l.take (i + 1)) S0) ∧ Fine (i + 1) (runS (l.take (i + 1)) S0) ∧ Below W.heap.size W W' := by
  have hb := below_alloc (Below.refl wr.heap.size wr) (.cells #[.int .i64 l[i].f0, .int .i64 l[i].f1, .int .i64 l[i].f2, .int .i64 l[i].f3, .string l[i].f4] 38)
  refine (do_calls _ W.heap.size g i F _ l[i] (hP.below hb) hF hk).mono ?_
  rintro e W' ⟨rfl, F', h1, _, _, h2⟩
  rw [runS_snoc l i hlt]
  exact ⟨rfl, F', h1, hF.do _, (hB.trans (hb.mono hB.size)).trans h2⟩
theorem R_kept {W W' : World} {B : Nat} {ok X : Nat → Prop} {v : Value} {xs : List S40} (h : Kd.R k40 40 W B ok v xs) (hk : Kept W W' X) (hne : ∀ k, ok k → B ≤ k → k < W.heap.size → ¬ X k) : Kd.R k40 40 W' B (fun k => ok k ∧ B ≤ k ∧ k < W.heap.size) v xs :=
  Kd.R_move (Kd.R_mono (Kd.R_bound h) (fun k hk => ⟨hk.1, hk.2.1, hk.2.2.1⟩)) (fun k hk' => hk.2 k hk'.2.2 (hne k hk'.1 hk'.2.1 hk'.2.2))
theorem keys_hasId (id : Int) : ∀ es : Ents, (keys es).filter (fun a => !(a.f0 == id)) = keys (keepEnts (hasId id) es)
  | [] => rfl
  | e :: es => by
    show (e.1 :: keys es).filter _ = keys ((e :: es).filter _)
    rw [List.filter_cons, List.filter_cons]
    show (if (!(e.1.f0 == id)) = true then _ else _) = keys (if (!(e.1.f0 == id)) = true then _ else _)
    rw [keys_hasId id es]
    split <;> rfl
theorem keep_keep (p : S40 → Cont → Bool) (es : Ents) : keepEnts p (keepEnts p es) = keepEnts p es := by
  unfold keepEnts
  rw [List.filter_filter]
  congr 1
  funext e
  simp
theorem filter_snoc {α : Type} (p : α → Bool) (xs : List α) (j : Nat) (h : j < xs.length) : (xs.take (j + 1)).filter p = (xs.take j).filter p ++ (if p xs[j] = true then [xs[j]] else []) := by
  rw [List.take_succ_eq_append_getElem h, List.filter_append]
  congr 1
  rw [List.filter_cons]
  split <;> rfl
theorem PoolIs.kept {W W' : World} {B g : Nat} {F : Nat → Prop} {S : PoolS} (h : PoolIs W B g F S) (hk : Kept W W' (fun _ => False)) : PoolIs W' B g F S :=
  h.move (fun k hF => hk.2 k (h.range k hF).2 (fun z => z)) hk.1
theorem size_alloc1 (w : World) (o : Obj) : (w.alloc o).heap.size = w.heap.size + 1 := by simp
end Go.Proofs.Ytlfmlmnpbcidnaa.PG
