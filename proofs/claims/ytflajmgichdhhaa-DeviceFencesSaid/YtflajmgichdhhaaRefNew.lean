/- The reference's value in memory, told by the device's lists; the reference's New. -/
import Derived.Test.YtflajmgichdhhaaAwake
import Derived.BigQuiet


namespace Go.Proofs.Ytflajmgichdhhaa.PG
open Go.RowKit Go.Proofs.YtflajmgichdhhaaW.PrintWords Go.Proofs.YtflajmgichdhhaaW.PrintLast Go.Proofs.YtflajmgichdhhaaW.PrintMore

set_option linter.unusedVariables false
set_option linter.unusedSimpArgs false
/-! ### the reference's value, told -/
def FencesOk (fl : List Int) (fs : Int → Option Int) : Prop := ∀ s : Nat, 1 ≤ s → s ≤ 4 → 0 ≤ fl.getD s 0 ∧ fl.getD s 0 ≤ 1099511627777 ∧ ∀ ep : Int, 0 ≤ ep → ep ≤ 1099511627776 → (ep < fl.getD s 0 ↔ ∃ f, fs (s : Int) = some f ∧ ep ≤ f)
def FuseOk (fu : Int) (sv : List Int) (S : DevS) : Prop := (S.fset = false → fu = -1) ∧ (S.fset = true → fu = S.left ∧ sv = S.surv)
/-- The reference's value v reads as S; what it leads to lies in ok. -/
structure RefAt (W : World) (ok : Nat → Prop) (v v0 v1 v2 v3 v6 : Value) (fl : List Int) (fu : Int) (sv : List Int) (S : DevS) : Prop where
  hv : v = .agg #[v0, v1, v2, v3, .bool S.failed, .int .i64 fu, v6]
  h0 : Kd.V Kd.string 9 W 0 ok v0 S.stable
  h1 : Kd.V (Kd.slice 9 Kd.string) 26 W 0 ok v1 S.old
  h2 : Kd.V k99 99 W 0 ok v2 S.pend
  h3 : Kd.V (Kd.int .i64) 3 W 0 ok v3 fl
  h6 : Kd.V (Kd.int .i64) 3 W 0 ok v6 sv
  fl5 : fl.length = 5
  fok : FencesOk fl S.fences
  uok : FuseOk fu sv S
def RefIs (W : World) (ok : Nat → Prop) (v : Value) (S : DevS) : Prop := ∃ v0 v1 v2 v3 v6 fl fu sv, RefAt W ok v v0 v1 v2 v3 v6 fl fu sv S
theorem RefIs.step {W W1 : World} {ok : Nat → Prop} {v : Value} {S : DevS} (h : RefIs W ok v S) (hm : ∀ k, ok k → k < W.heap.size → W1.heap[k]? = W.heap[k]?) : RefIs W1 ok v S := by
  obtain ⟨v0, v1, v2, v3, v6, fl, fu, sv, h⟩ := h
  exact ⟨v0, v1, v2, v3, v6, fl, fu, sv, { h with h0 := Kd.V_step h.h0 hm, h1 := Kd.V_step h.h1 hm, h2 := Kd.V_step h.h2 hm, h3 := Kd.V_step h.h3 hm, h6 := Kd.V_step h.h6 hm }⟩
theorem RefIs.below {W W1 : World} {ok : Nat → Prop} {v : Value} {S : DevS} (h : RefIs W ok v S) (hb : Below W.heap.size W W1) : RefIs W1 ok v S := h.step (fun k _ hk => hb.block k hk)
theorem RefIs.mono {W : World} {ok ok' : Nat → Prop} {v : Value} {S : DevS} (h : RefIs W ok v S) (hok : ∀ k, ok k → k < W.heap.size → ok' k) : RefIs W ok' v S := by
  obtain ⟨v0, v1, v2, v3, v6, fl, fu, sv, h⟩ := h
  have hm : ∀ {α : Type} {d : Kd α} {e : Nat} {u : Value} {xs : List α}, Kd.V d e W 0 ok u xs → Kd.V d e W 0 ok' u xs := fun hu => Kd.V_mono (Kd.V_bound hu) (fun k hk => hok k hk.1 hk.2)
  exact ⟨v0, v1, v2, v3, v6, fl, fu, sv, { h with h0 := hm h.h0, h1 := hm h.h1, h2 := hm h.h2, h3 := hm h.h3, h6 := hm h.h6 }⟩
/-- The device has been written; the reference's value lies elsewhere. -/
theorem RefIs.kept {W W1 : World} {F F1 : Nat → Prop} {v : Value} {S : DevS} (h : RefIs W (fun k => ¬ F k) v S) (hk : Kept W W1 F) (hF : ∀ k, F1 k → F k ∨ W.heap.size ≤ k) : RefIs W1 (fun k => ¬ F1 k) v S := by
  obtain ⟨v0, v1, v2, v3, v6, fl, fu, sv, h⟩ := h
  have hm : ∀ {α : Type} {d : Kd α} {e : Nat} {u : Value} {xs : List α}, Kd.V d e W 0 (fun k => ¬ F k) u xs → Kd.V d e W1 0 (fun k => ¬ F1 k) u xs := fun hu => Kd.V_mono (Kd.V_kept (Kd.V_bound hu) hk (fun k z => z.1)) (fun k hk z => (hF k z).elim hk.1 (fun y => by have := hk.2; omega))
  exact ⟨v0, v1, v2, v3, v6, fl, fu, sv, { h with h0 := hm h.h0, h1 := hm h.h1, h2 := hm h.h2, h3 := hm h.h3, h6 := hm h.h6 }⟩
/-- Only what the reference's value says of a state counts: the fuse's rest of an unset fuse does not. -/
theorem RefIs.like {W : World} {ok : Nat → Prop} {v : Value} {S S' : DevS} (h : RefIs W ok v S) (e0 : S'.stable = S.stable) (e1 : S'.old = S.old) (e2 : S'.pend = S.pend) (e3 : S'.fences = S.fences) (e4 : S'.failed = S.failed) (e5 : S'.fset = S.fset) (e6 : S.fset = true → S'.left = S.left ∧ S'.surv = S.surv) : RefIs W ok v S' := by
  obtain ⟨v0, v1, v2, v3, v6, fl, fu, sv, h⟩ := h
  refine ⟨v0, v1, v2, v3, v6, fl, fu, sv, { hv := by rw [e4]; exact h.hv, h0 := by rw [e0]; exact h.h0, h1 := by rw [e1]; exact h.h1, h2 := by rw [e2]; exact h.h2, h3 := h.h3, h6 := h.h6, fl5 := h.fl5, fok := by rw [e3]; exact h.fok, uok := ⟨fun z => h.uok.1 (by rw [← e5]; exact z), fun z => ?_⟩ }⟩
  have z' : S.fset = true := by rw [← e5]; exact z
  obtain ⟨a, b⟩ := h.uok.2 z'
  obtain ⟨c, d⟩ := e6 z'
  exact ⟨a.trans c.symm, b.trans d.symm⟩
/-! ### the reference's New -/
def kNil : Kd Unit := Kd.scalar (fun _ => .slice none 0 0) (fun _ => rfl)
theorem nil_C {W : World} {A : Option Addr} {n : Nat} (h : kNil.C W A n (List.replicate n ())) : (Kd.slice 9 Kd.string).C W A n (List.replicate n []) := by
  obtain ⟨h1, h2, h3⟩ := h
  refine ⟨by simp, h2, fun hn => ?_⟩
  obtain ⟨ad, e, hc⟩ := h3 hn
  refine ⟨ad, e, fun j p hj => ?_⟩
  have hjn : j < n := by have := (List.getElem?_eq_some_iff.1 hj).1; simpa using this
  have hp : p = [] := by
    have := List.getElem?_replicate (a := ([] : List ByteArray)) (n := n) (i := j)
    rw [hj, if_pos hjn] at this
    exact Option.some.inj this
  obtain ⟨c, c1, c2, c3⟩ := hc j () (by rw [List.getElem?_replicate, if_pos hjn])
  refine ⟨c, c1, ?_, c3⟩
  rw [hp]
  exact ⟨none, 0, c2, Nat.le_refl _, Kd.C_nil _ _⟩
theorem padded_calls (W : World) : Calls Try.prog 47 #[.string ⟨#[]⟩, .int .i64 140] W fun e W' => e = .returned (.string zeros140) ∧ Below W.heap.size W W' := by
  obtain ⟨k, hk⟩ := padded_l0 140 ⟨#[]⟩ (by decide)
  have e : padS ⟨#[]⟩ = zeros140 := by kernel_rfl
  rw [e] at hk
  refine (dasdref01_Padded.calls k ⟨#[]⟩ 140 _ W hk).mono ?_
  rintro e W' ⟨he, hd⟩
  exact ⟨he, hd.below⟩
def set7 (w : World) (b : Nat) (a0 a1 a2 a3 a4 a5 a6 : Value) : World := ((((((w.setCell ⟨b, 0, none⟩ a0).setCell ⟨b, 1, none⟩ a1).setCell ⟨b, 2, none⟩ a2).setCell ⟨b, 3, none⟩ a3).setCell ⟨b, 4, none⟩ a4).setCell ⟨b, 5, none⟩ a5).setCell ⟨b, 6, none⟩ a6
theorem set7_blk {w : World} {b : Nat} {x0 x1 x2 x3 x4 x5 x6 : Value} {t : TypeId} (h : w.heap[b]? = some (.cells #[x0, x1, x2, x3, x4, x5, x6] t (0, 0))) (a0 a1 a2 a3 a4 a5 a6 : Value) : (set7 w b a0 a1 a2 a3 a4 a5 a6).heap[b]? = some (.cells #[a0, a1, a2, a3, a4, a5, a6] t (0, 0)) :=
  blk_put (blk_put (blk_put (blk_put (blk_put (blk_put (blk_put h 0 a0 rfl) 1 a1 rfl) 2 a2 rfl) 3 a3 rfl) 4 a4 rfl) 5 a5 rfl) 6 a6 (by rfl)
theorem set7_far (w : World) (b : Nat) (a0 a1 a2 a3 a4 a5 a6 : Value) (k : Nat) (hk : k ≠ b) : (set7 w b a0 a1 a2 a3 a4 a5 a6).heap[k]? = w.heap[k]? :=
  (Below.heap_setCell _ _ _ _ hk).trans ((Below.heap_setCell _ _ _ _ hk).trans ((Below.heap_setCell _ _ _ _ hk).trans ((Below.heap_setCell _ _ _ _ hk).trans ((Below.heap_setCell _ _ _ _ hk).trans ((Below.heap_setCell _ _ _ _ hk).trans (Below.heap_setCell _ _ _ _ hk))))))
theorem set7_below {W w : World} {b : Nat} (h : Below W.heap.size W w) (hb : W.heap.size ≤ b) (a0 a1 a2 a3 a4 a5 a6 : Value) : Below W.heap.size W (set7 w b a0 a1 a2 a3 a4 a5 a6) :=
  ((((((h.setCell (p := ⟨b, 0, none⟩) hb a0).setCell (p := ⟨b, 1, none⟩) hb a1).setCell (p := ⟨b, 2, none⟩) hb a2).setCell (p := ⟨b, 3, none⟩) hb a3).setCell (p := ⟨b, 4, none⟩) hb a4).setCell (p := ⟨b, 5, none⟩) hb a5).setCell (p := ⟨b, 6, none⟩) hb a6
theorem set7_size (w : World) (b : Nat) (a0 a1 a2 a3 a4 a5 a6 : Value) : (set7 w b a0 a1 a2 a3 a4 a5 a6).heap.size = w.heap.size := by simp [set7, World.setCell]
theorem three (W : World) (a b c : Obj) : (((W.alloc a).alloc b).alloc c).heap[W.heap.size]? = some a ∧ (((W.alloc a).alloc b).alloc c).heap[W.heap.size + 1]? = some b ∧
    (((W.alloc a).alloc b).alloc c).heap[W.heap.size + 1 + 1]? = some c ∧ Below W.heap.size W (((W.alloc a).alloc b).alloc c) := by
  have e1 : (W.alloc a).heap.size = W.heap.size + 1 := by simp
  have e2 : ((W.alloc a).alloc b).heap.size = W.heap.size + 1 + 1 := by simp
  have n1 := blk_new (W.alloc a) b
  have n2 := blk_new ((W.alloc a).alloc b) c
  rw [e1] at n1
  rw [e2] at n2
  exact ⟨blk_alloc (blk_alloc (blk_new _ _) _) _, blk_alloc n1 _, n2, below_alloc (below_alloc (below_alloc (Below.refl _ _) _) _) _⟩
theorem replicate_snoc {α : Type} (n : Nat) (a : α) : List.replicate n a ++ [a] = List.replicate (n + 1) a := by
  rw [← List.replicate_succ']
def RNewPost (n : Nat) (W : World) (e : Ending) (W' : World) : Prop := ∃ v, e = .returned (.tuple #[v, .int .i64 0]) ∧ RefIs W' (fun k => W.heap.size ≤ k) v (newS n) ∧ Below W.heap.size W W'
set_option maxHeartbeats 2000000 in
set_option maxRecDepth 100000 in
theorem rnew_calls (W : World) (n : Nat) (h1 : 1 ≤ n) (h2 : n ≤ 1155) :
    Calls Try.prog 18 #[.int .i64 n] W fun e W' => RNewPost n W e W' := by
  have hd1 : decide ((n : Int) < 1) = false := decide_eq_false (by omega)
  have hd2 : decide (1155 < (n : Int)) = false := decide_eq_false (by omega)
  have hn1 : (n : Int) ≤ 1155 := by omega
  go_enter Try.func18, Try.ntmps18
  go_wp2_with fail
  obtain ⟨f0, f1, f2, fb'⟩ := three W (.cells #[.slice none 0 0, .slice none 0 0, .slice none 0 0, .slice none 0 0, .bool false, .int .i64 0, .slice none 0 0] 31) (.cells #[.int .i64 0, .int .i64 0, .int .i64 0, .int .i64 0, .int .i64 0] 3) (.cells #[.slice none 0 0, .slice none 0 0, .slice none 0 0, .slice (some ⟨W.heap.size + 1, 0, none⟩) 5 5, .bool false, .int .i64 (-1), .slice none 0 0] 31)
  obtain ⟨W3, hW3⟩ : ∃ W3, W3 = ((W.alloc (.cells #[.slice none 0 0, .slice none 0 0, .slice none 0 0, .slice none 0 0, .bool false, .int .i64 0, .slice none 0 0] 31)).alloc (.cells #[.int .i64 0, .int .i64 0, .int .i64 0, .int .i64 0, .int .i64 0] 3)).alloc (.cells #[.slice none 0 0, .slice none 0 0, .slice none 0 0, .slice (some ⟨W.heap.size + 1, 0, none⟩) 5 5, .bool false, .int .i64 (-1), .slice none 0 0] 31) := ⟨_, rfl⟩
  rw [← hW3] at f0 f1 f2 fb' ⊢
  obtain ⟨rb, hrb⟩ : ∃ rb, rb = W.heap.size := ⟨_, rfl⟩
  obtain ⟨fb, hfb⟩ : ∃ fb, fb = W.heap.size + 1 := ⟨_, rfl⟩
  obtain ⟨gb, hgb⟩ : ∃ gb, gb = W.heap.size + 1 + 1 := ⟨_, rfl⟩
  have hlr : W.heap.size ≤ rb := by omega
  have hlf : W.heap.size ≤ fb := by omega
  have hlg : W.heap.size ≤ gb := by omega
  have ne1 : rb ≠ gb := by omega
  have ne2 : gb ≠ rb := by omega
  rw [← hgb] at f2 ⊢
  rw [← hfb] at f1 f2 ⊢
  rw [← hrb] at f0
  rw [show (Value.pointer (some ⟨W.heap.size, 0, none⟩)) = .pointer (some ⟨rb, 0, none⟩) by rw [hrb]]
  have F0 := Aside0.mk f0
  have F1 := Aside0.mk (show W3.heap[fb]? = some (.cells (ints [0, 0, 0, 0, 0]) 3 (0, 0)) from f1)
  have F2 := Aside0.mk f2
  have FB := Aside0.mk fb'
  clear f0 f1 f2 fb' hW3 hrb hfb hgb
  go_loopg [5] n (fun gg s5 wr => ∃ (j : Nat) (v0 v1 : Value), s5 = .int .i64 j ∧ j ≤ n ∧ n - j ≤ gg ∧ Aside0 (wr.heap[gb]? = some (.cells #[v0, v1, .slice none 0 0, .slice (some ⟨fb, 0, none⟩) 5 5, .bool false, .int .i64 (-1), .slice none 0 0] 31 (0, 0))) ∧ Aside0 (wr.heap[rb]? = some (.cells #[.slice none 0 0, .slice none 0 0, .slice none 0 0, .slice none 0 0, .bool false, .int .i64 0, .slice none 0 0] 31 (0, 0))) ∧ Aside0 (wr.heap[fb]? = some (.cells (ints [0, 0, 0, 0, 0]) 3 (0, 0))) ∧ Aside0 (Kd.R Kd.string 9 wr W.heap.size (fun k => W.heap.size ≤ k) v0 (List.replicate j zeros140)) ∧ Aside0 (Kd.R kNil 26 wr W.heap.size (fun k => W.heap.size ≤ k) v1 (List.replicate j ())) ∧ Aside0 (Below W.heap.size W wr))
  case atStart => exact ⟨0, .slice none 0 0, .slice none 0 0, by go_num, Nat.zero_le _, by omega, F2, F0, F1, ⟨Kd.R_nil _ _ _ _ _⟩, ⟨Kd.R_nil _ _ _ _ _⟩, FB⟩
  case round =>
    clear F0 F1 F2 FB
    obtain ⟨j, v0, v1, rfl, hj, hgg, HG, HRB, HF, H0, H1, HB⟩ := hrel
    obtain ⟨A0, c0, hv0, _, _⟩ := Kd.R_reads H0.out
    obtain ⟨A1, c1, hv1, _, _⟩ := Kd.R_reads H1.out
    rw [List.length_replicate] at hv0 hv1
    subst hv0
    subst hv1
    have hbr : W.heap.size ≤ wr.heap.size := HB.out.size
    have g0 : wr.cell? ⟨gb, 0, none⟩ = some (.slice A0 j c0) := by rw [blk_cell HG.out]; rfl
    have lgb : gb < wr.heap.size := blk_lt HG.out
    by_cases hlt : j < n
    · have hltz : (j : Int) < (n : Int) := by omega
      go_wp2_with fail
      refine start_ (n := 7) (S := fun w' => w'.cell? ⟨gb, 0, none⟩ = some (.slice A0 j c0)) (ds := [4, 6]) #[false, false, false, false, false, false, false] (by kernel_rfl) rfl rfl (g0) (fun hHeld => ?_)
      refine pure_ (i := 0) (N := some 20) (v := ?_) (a' := ?_) #[true, false, false, false, false, false, false] rfl rfl (by kernel_rfl) (fun _ _ _ h => h) (Or.inl ⟨by rfl, ?_⟩) ?_ ?_
      rotate_left
      · intro w'
        go_simp
        with_reducible rfl
      rotate_left
      · simp only [Act.put, List.setIfInBounds_toArray, List.set_cons_zero, List.set_cons_succ, i64_w, i32_w]
        rfl
      refine take_ (i := 1) (N := some 21) (v := ?_) (a' := ?_) #[true, true, false, false, false, false, false] rfl rfl (by kernel_rfl) (fun _ _ _ h => h) (Or.inl ⟨by rfl, ?_⟩) hHeld ?_ ?_
      rotate_left
      · intro w' s0
        go_simp
        with_reducible rfl
      rotate_left
      · simp only [Act.put, List.setIfInBounds_toArray, List.set_cons_zero, List.set_cons_succ, i64_w, i32_w]
        rfl
      refine one_ (i := 2) (N := some 22) #[true, true, true, false, false, false, false] rfl rfl (by kernel_rfl) (by decide) (fun K hK => ?_)
      refine goes_ Try.func47 (by kernel_rfl) rfl #[.string ⟨#[]⟩, .int .i64 140] (by rfl) rfl rfl (by simp only [List.map_toArray, List.map_cons, List.map_nil]; rfl) ?_
      with_reducible refine (padded_calls _).mono ?_
      rintro e w3 ⟨rfl, hb3⟩
      refine ⟨_, rfl, ?_⟩
      have HB3 := Aside0.mk (show Below wr.heap.size wr w3 from ((Below.refl wr.heap.size wr).drew).trans hb3)
      clear hb3
      refine hK.out _ _ (((HB3.out.cell (p := ⟨gb, 0, none⟩) lgb).trans g0)) (fun hHeld => ?_)
      clear hK K
      refine norm_ (a' := ?_) ?_ ?_
      rotate_left
      · show Act.put _ (some 22) _ = _
        simp only [Act.put, List.setIfInBounds_toArray, List.set_cons_zero, List.set_cons_succ, i64_w, i32_w]
        rfl
      refine one_ (i := 3) (N := some 23) #[true, true, true, true, false, false, false] rfl rfl (by kernel_rfl) (by decide) (fun K hK => ?_)
      refine value_ (w1 := ?_) (v := ?_) (by rfl) rfl ?_ ?_
      rotate_left 2
      · go_simp
        constructor
        · rfl
        · rfl
      refine hK.out _ _ (((blk_cell (blk_alloc (blk_below HG.out HB3.out) _) 0).trans rfl)) (fun hHeld => ?_)
      clear hK K
      refine norm_ (a' := ?_) ?_ ?_
      rotate_left
      · show Act.put _ (some 23) _ = _
        simp only [Act.put, List.setIfInBounds_toArray, List.set_cons_zero, List.set_cons_succ, i64_w, i32_w]
        rfl
      refine last_ (i := 4) (N := some 24) #[true, true, true, true, true, false, false] rfl rfl (by kernel_rfl) (by decide) (fun K hK => ?_)
      have hr3 := Kd.R_below H0.out HB3.out
      refine Kd.R_append_step Kd.string (w0 := W) (W := w3) W.heap.size (by rfl) (.tmp 21) (.tmp 23) 26 9 (.string ⟨#[]⟩) 16 rfl Try.underlying26 info9 rfl (by decide) (by omega) (.slice A0 j c0) (List.replicate j zeros140) zeros140 [.string zeros140] (fun k => W.heap.size ≤ k) (fun _ => False) rfl rfl rfl (fun _ h => h.elim) (fun k hk => Nat.le_trans hbr (Nat.le_trans HB3.out.size hk)) hr3 (HB.out.trans (HB3.out.mono hbr)) (Nat.le_trans hbr HB3.out.size) (by rw [List.length_replicate]; omega) ?_
      intro v4 w4 hR4 hb4 hg4 hat4
      rw [replicate_snoc] at hR4
      obtain ⟨A4, c4, hv4, _, _⟩ := Kd.R_reads hR4
      rw [List.length_replicate] at hv4
      subst hv4
      have hG4 := blk_grown (blk_below HG.out HB3.out) hg4 (fun e => Kd.R_ne hr3 (blk_below HG.out HB3.out) (by decide) e)
      have hRB4 := blk_grown (blk_below HRB.out HB3.out) hg4 (fun e => Kd.R_ne hr3 (blk_below HRB.out HB3.out) (by decide) e)
      have hF4 := blk_grown (blk_below HF.out HB3.out) hg4 (fun e => Kd.R_ne hr3 (blk_below HF.out HB3.out) (by decide) e)
      have h14 := Kd.R_over (Kd.R_below H1.out HB3.out) hr3 (by decide) hg4
      have g4 : w4.cell? ⟨gb, 0, none⟩ = some (.slice A0 j c0) := by rw [blk_cell hG4]; rfl
      have fg4 : w4.frozen? ⟨gb, 0, none⟩ = false := blk_frozen hG4 0
      have HR4 := Aside0.mk hR4
      have HB4 := Aside0.mk hb4
      have HG4 := Aside0.mk hG4
      have HRB4 := Aside0.mk hRB4
      have HF4 := Aside0.mk hF4
      have H14 := Aside0.mk h14
      clear hr3 hR4 hb4 hg4 hat4 hG4 hRB4 hF4 h14
      refine hK.out _ _ ?_
      clear hK K
      refine norm_ (a' := ?_) ?_ ?_
      rotate_left
      · show Act.put _ (some 24) _ = _
        simp only [Act.put, List.setIfInBounds_toArray, List.set_cons_zero, List.set_cons_succ, i64_w, i32_w]
        rfl
      refine pure_ (i := 5) (N := some 25) (v := ?_) (a' := ?_) #[true, true, true, true, true, true, false] rfl rfl (by kernel_rfl) (fun _ _ _ h => h) (Or.inl ⟨by rfl, ?_⟩) ?_ ?_
      rotate_left
      · intro w'
        go_simp
        with_reducible rfl
      rotate_left
      · simp only [Act.put, List.setIfInBounds_toArray, List.set_cons_zero, List.set_cons_succ, i64_w, i32_w]
        rfl
      refine last_ (i := 6) (N := none) #[true, true, true, true, true, true, true] rfl rfl (by kernel_rfl) (by decide) (fun K hK => ?_)
      refine skip_ (w1 := ?_) (by rfl) rfl ?_ ?_
      rotate_left
      · go_simp
        rfl
      refine hK.out _ _ ?_
      clear hK K
      refine done_ (by kernel_rfl) ?_
      obtain ⟨w5, hw5⟩ : ∃ w5, w5 = w4.setCell ⟨gb, 0, none⟩ (.slice A4 (j + 1) c4) := ⟨_, rfl⟩
      have hG5 : w5.heap[gb]? = some (.cells #[.slice A4 (j + 1) c4, .slice A1 j c1, .slice none 0 0, .slice (some ⟨fb, 0, none⟩) 5 5, .bool false, .int .i64 (-1), .slice none 0 0] 31 (0, 0)) := by rw [hw5]; exact blk_put HG4.out 0 _ (by rfl)
      have hfar : ∀ k, k ≠ gb → w5.heap[k]? = w4.heap[k]? := fun k hk => by rw [hw5]; exact Below.heap_setCell _ _ _ _ hk
      have HRB5 := Aside0.mk ((hfar rb ne1).trans HRB4.out)
      have HF5 := Aside0.mk ((hfar fb (blk_ne HF4.out HG4.out (by decide))).trans HF4.out)
      have HR5 := Aside0.mk (Kd.R_mono (Kd.R_step (Kd.R_types HR4.out HG4.out (by decide)) (fun k hk _ => hfar k hk.2)) (fun k hk => hk.1))
      have H15 := Aside0.mk (Kd.R_mono (Kd.R_step (Kd.R_types H14.out HG4.out (by decide)) (fun k hk _ => hfar k hk.2)) (fun k hk => hk.1))
      have HB5 := Aside0.mk (show Below W.heap.size W w5 by rw [hw5]; exact HB4.out.setCell hlg _)
      have g51 : w5.cell? ⟨gb, 1, none⟩ = some (.slice A1 j c1) := by rw [blk_cell hG5]; rfl
      have hbr5 : W.heap.size ≤ w5.heap.size := HB5.out.size
      have HG5 := Aside0.mk hG5
      rw [← hw5]
      clear hw5 hG5 hfar HG4 HRB4 HF4 HR4 H14 HB4 g4 fg4
      go_wp2_with (at_builtin; with_reducible refine stopHere ?_)
      refine ⟨?_⟩
      refine Kd.R_append kNil (w0 := W) W.heap.size rfl (.tmp 27) (.tmp 28) 27 26 (.slice none 0 0) 24 rfl Try.underlying27 info26 rfl (by decide) (by omega) (.slice A1 j c1) (List.replicate j ()) () [.slice none 0 0] (fun k => W.heap.size ≤ k) (fun _ => False) rfl rfl rfl (fun _ h => h.elim) (fun k hk => Nat.le_trans hbr5 hk) H15.out HB5.out hbr5 (by rw [List.length_replicate]; omega) ?_
      intro v6 w6 hR6 hb6 hg6 hat6
      rw [replicate_snoc] at hR6
      obtain ⟨A6, c6, hv6, _, _⟩ := Kd.R_reads hR6
      rw [List.length_replicate] at hv6
      subst hv6
      have hG6 := blk_grown HG5.out hg6 (fun e => Kd.R_ne H15.out HG5.out (by decide) e)
      have HRB6 := Aside0.mk (blk_grown HRB5.out hg6 (fun e => Kd.R_ne H15.out HRB5.out (by decide) e))
      have HF6 := Aside0.mk (blk_grown HF5.out hg6 (fun e => Kd.R_ne H15.out HF5.out (by decide) e))
      have HR6 := Aside0.mk (Kd.R_over HR5.out H15.out (by decide) hg6)
      have H16 := Aside0.mk hR6
      have HB6 := Aside0.mk hb6
      have g61 : w6.cell? ⟨gb, 1, none⟩ = some (.slice A1 j c1) := by rw [blk_cell hG6]; rfl
      have fg6 : w6.frozen? ⟨gb, 1, none⟩ = false := blk_frozen hG6 1
      have HG6 := Aside0.mk hG6
      clear hR6 hb6 hg6 hat6 hG6 HG5 HRB5 HF5 HR5 H15 HB5
      go_wp2_with fail
      go_roundg (n - (j + 1))
      case measure => omega
      case rel =>
        have hfar : ∀ k, k ≠ gb → (w6.setCell ⟨gb, 1, none⟩ (.slice A6 (j + 1) c6)).heap[k]? = w6.heap[k]? := fun k hk => Below.heap_setCell _ _ _ _ hk
        exact ⟨j + 1, .slice A4 (j + 1) c4, .slice A6 (j + 1) c6, by go_num, by omega, Nat.le_refl _, ⟨blk_put HG6.out 1 _ (by rfl)⟩, ⟨(hfar rb ne1).trans HRB6.out⟩, ⟨(hfar fb (blk_ne HF6.out HG6.out (by decide))).trans HF6.out⟩,
          ⟨Kd.R_mono (Kd.R_step (Kd.R_types HR6.out HG6.out (by decide)) (fun k hk _ => hfar k hk.2)) (fun k hk => hk.1)⟩, ⟨Kd.R_mono (Kd.R_step (Kd.R_types H16.out HG6.out (by decide)) (fun k hk _ => hfar k hk.2)) (fun k hk => hk.1)⟩, ⟨HB6.out.setCell hlg _⟩⟩
    · obtain rfl : j = n := by omega
      have hG := HG.out
      have k1 : wr.cell? ⟨gb, 1, none⟩ = some (.slice A1 j c1) := by rw [blk_cell hG]; rfl
      have k2 : wr.cell? ⟨gb, 2, none⟩ = some (.slice none 0 0) := by rw [blk_cell hG]; rfl
      have k3 : wr.cell? ⟨gb, 3, none⟩ = some (.slice (some ⟨fb, 0, none⟩) 5 5) := by rw [blk_cell hG]; rfl
      have k4 : wr.cell? ⟨gb, 4, none⟩ = some (.bool false) := by rw [blk_cell hG]; rfl
      have k5 : wr.cell? ⟨gb, 5, none⟩ = some (.int .i64 (-1)) := by rw [blk_cell hG]; rfl
      have k6 : wr.cell? ⟨gb, 6, none⟩ = some (.slice none 0 0) := by rw [blk_cell hG]; rfl
      have hR := HRB.out
      have r0 : wr.cell? ⟨rb, 0, none⟩ = some (.slice none 0 0) := by rw [blk_cell hR]; rfl
      have r1 : wr.cell? ⟨rb, 1, none⟩ = some (.slice none 0 0) := by rw [blk_cell hR]; rfl
      have r2 : wr.cell? ⟨rb, 2, none⟩ = some (.slice none 0 0) := by rw [blk_cell hR]; rfl
      have r3 : wr.cell? ⟨rb, 3, none⟩ = some (.slice none 0 0) := by rw [blk_cell hR]; rfl
      have r4 : wr.cell? ⟨rb, 4, none⟩ = some (.bool false) := by rw [blk_cell hR]; rfl
      have r5 : wr.cell? ⟨rb, 5, none⟩ = some (.int .i64 0) := by rw [blk_cell hR]; rfl
      have r6 : wr.cell? ⟨rb, 6, none⟩ = some (.slice none 0 0) := by rw [blk_cell hR]; rfl
      have fr0 := blk_frozen hR 0
      have fr1 := blk_frozen hR 1
      have fr2 := blk_frozen hR 2
      have fr3 := blk_frozen hR 3
      have fr4 := blk_frozen hR 4
      have fr5 := blk_frozen hR 5
      have fr6 := blk_frozen hR 6
      clear hG hR
      go_wp2_with fail
      have hbk := set7_blk HRB.out (.slice A0 j c0) (.slice A1 j c1) (.slice none 0 0) (.slice (some ⟨fb, 0, none⟩) 5 5) (.bool false) (.int .i64 (-1)) (.slice none 0 0)
      refine bodyPost_ret (results_ct rfl _ _ rb 31 #[.slice A0 j c0, .slice A1 j c1, .slice none 0 0, .slice (some ⟨fb, 0, none⟩) 5 5, .bool false, .int .i64 (-1), .slice none 0 0] (0, 0) _ rfl hbk Try.underlying31 rfl (by kernel_rfl)) rfl ?_
      have hfar := set7_far wr rb (.slice A0 j c0) (.slice A1 j c1) (.slice none 0 0) (.slice (some ⟨fb, 0, none⟩) 5 5) (.bool false) (.int .i64 (-1)) (.slice none 0 0)
      refine ⟨_, rfl, ⟨_, _, _, _, _, [0, 0, 0, 0, 0], -1, [], { hv := rfl, h0 := ?_, h1 := ?_, h2 := Kd.V_nil _ _ _ _ _, h3 := ?_, h6 := Kd.V_nil _ _ _ _ _, fl5 := rfl, fok := ?_, uok := ⟨fun _ => rfl, fun z => by cases z⟩ }⟩, set7_below HB.out hlr _ _ _ _ _ _ _⟩
      · have h := Kd.R_V (base' := 0) (Kd.R_mono (Kd.R_step (Kd.R_types H0.out HRB.out (by decide)) (fun k hk _ => hfar k hk.2)) (fun k hk => hk.1))
        exact h
      · obtain ⟨A, c, e, hl, hf⟩ := Kd.R_V (base' := 0) (Kd.R_mono (Kd.R_step (Kd.R_types H1.out HRB.out (by decide)) (fun k hk _ => hfar k hk.2)) (fun k hk => hk.1))
        rw [List.length_replicate] at e hl hf
        refine ⟨A, c, ?_, ?_, ?_⟩
        · rw [e]; show _ = Value.slice A (List.replicate j ([] : List ByteArray)).length c; rw [List.length_replicate]
        · show (List.replicate j ([] : List ByteArray)).length ≤ c; rw [List.length_replicate]; exact hl
        · show Kd.F (Kd.slice 9 Kd.string) _ _ A (List.replicate j ([] : List ByteArray)).length (List.replicate j [])
          rw [List.length_replicate]
          exact Kd.F_imp hf (fun W' h => nil_C h)
      · exact ⟨some ⟨fb, 0, none⟩, 5, rfl, Nat.le_refl _, ints_F ((hfar fb (blk_ne HF.out HRB.out (by decide))).trans HF.out) (by decide) hlf⟩
      · intro s hs1 hs2
        have e : ([0, 0, 0, 0, 0] : List Int).getD s 0 = 0 := by
          match s with
          | 1 => rfl
          | 2 => rfl
          | 3 => rfl
          | 4 => rfl
          | 0 => rfl
          | s + 5 => omega
        rw [e]
        refine ⟨Int.le_refl _, by decide, fun ep h0 h1 => ⟨fun z => by omega, fun ⟨f, z, _⟩ => by cases z⟩⟩
end Go.Proofs.Ytflajmgichdhhaa.PG
