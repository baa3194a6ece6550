/- use: a page becomes the one that was used last. -/
import Derived.Test.YtlfmlmnpbcidnaaSay
import Derived.BigQuiet
namespace Go.Proofs.Ytlfmlmnpbcidnaa.PG
open Go.RowKit Go.Proofs.YtlfmlmnpbcidnaaW.PrintWords Go.Proofs.YtlfmlmnpbcidnaaW.PrintLast Go.Proofs.YtlfmlmnpbcidnaaW.PrintMore
set_option linter.unusedVariables false
set_option linter.unusedSimpArgs false
theorem R_row {W : World} {B : Nat} {ok : Nat → Prop} {v : Value} {xs : List S40} (h : Kd.R k40 40 W B ok v xs) (hx : xs ≠ []) : ∃ rb cap, v = .slice (some ⟨rb, 0, none⟩) xs.length cap ∧ RowAt W rb cap xs ∧ B ≤ rb ∧ cap ≤ maxLen ∧ ok rb := by
  obtain ⟨hok, inner, ho, hr⟩ := id h
  rcases ho.2 with ⟨_, hz⟩ | ⟨g, cap', cur, he, hb, hh, hn, hm, hs, ht⟩
  · exact absurd (List.eq_nil_of_length_eq_zero hz) hx
  · subst he
    obtain ⟨_, h2, h3, h4⟩ := RowAt.of_R h
    exact ⟨g, cap', rfl, h2, h3, h4, hok g rfl⟩
theorem PoolAt.R {W : World} {B g bm : Nat} {v : Value} {m : Ents} {F : Nat → Prop} {S : PoolS} (h : PoolAt W B g bm v m F S) (ok : Nat → Prop) (hok : ∀ k, F k → ok k) : Kd.R k40 40 W B ok v (keys S.ents) := by
  rcases h.row with ⟨hv, he⟩ | ⟨rb, cap, hv, hrow, hB, hm, hF⟩
  · subst hv; rw [he]; exact Kd.R_nil _ _ _ _ _
  · subst hv; exact hrow.toR hB hm (hok _ hF)
theorem PoolAt.own {W : World} {B g bm : Nat} {v : Value} {m : Ents} {F : Nat → Prop} {S : PoolS} (h : PoolAt W B g bm v m F S) : ∀ k, v.ownBlock = some k → F k ∧ k ≠ g ∧ k ≠ bm := by
  intro k hk
  rcases h.row with ⟨hv, he⟩ | ⟨rb, cap, hv, hrow, hB, hm, hF⟩
  · subst hv; cases hk
  · subst hv
    cases hk
    exact ⟨hF, fun z => hrow.ne h.hg (by decide) z.symm, hrow.ne_map h.hm⟩
theorem look_snoc (a b : S40) (c : Cont) : ∀ es : Ents, look a (es ++ [(b, c)]) = match look a es with | some c' => some c' | none => if b = a then some c else none
  | [] => by simp only [List.nil_append, look]
  | e :: es => by
    rw [List.cons_append]
    simp only [look]
    by_cases h : e.1 = a
    · rw [if_pos h, if_pos h]
    · rw [if_neg h, if_neg h]; exact look_snoc a b c es
theorem keys_snoc (es : Ents) (b : S40) (c : Cont) : keys (es ++ [(b, c)]) = keys es ++ [b] := by simp [keys]
/-- Is it this place? -/
def isAt (at_ : S40) (a : S40) (_ : Cont) : Bool := decide (a = at_)
theorem not_keep (a : S40) (es : Ents) : a ∉ keys (keepEnts (isAt a) es) := by
  intro h
  obtain ⟨e, he, rfl⟩ := List.mem_map.1 h
  have := (List.mem_filter.1 he).2
  simp [isAt] at this
def usedEnts (a : S40) (c : Cont) (es : Ents) : Ents := keepEnts (isAt a) es ++ [(a, c)]
def used (a : S40) (c : Cont) (S : PoolS) : PoolS := { S with ents := usedEnts a c S.ents }
theorem look_used (a : S40) (c : Cont) (es m : Ents) (hl : ∀ b, look b m = look b (keepEnts (isAt a) es)) (b : S40) : look b (upd a c m) = look b (usedEnts a c es) := by
  have hn := look_none a _ (not_keep a es)
  rw [look_upd, usedEnts, look_snoc, hl b]
  by_cases h : b = a
  · subst h; rw [if_pos rfl, hn]; simp
  · rw [if_neg h, if_neg (fun z => h z.symm)]
    cases look b (keepEnts (isAt a) es) <;> rfl
theorem nodup_used (a : S40) (c : Cont) (es : Ents) (hn : (keys (keepEnts (isAt a) es)).Nodup) : (keys (usedEnts a c es)).Nodup := by
  rw [usedEnts, keys_snoc]
  refine List.nodup_append.2 ⟨hn, by simp, ?_⟩
  intro x hx y hy e
  rw [List.mem_singleton] at hy
  subst e
  subst hy
  exact not_keep x es hx
theorem eg34 : ∀ args w, (callFunc 34 args).run Try.prog w = .ok (.enter 34 args) w := enters_of Try.func34 (by kernel_rfl) rfl
theorem eg33 : ∀ args w, (callFunc 33 args).run Try.prog w = .ok (.enter 33 args) w := enters_of Try.func33 (by kernel_rfl) rfl
theorem eg27 : ∀ args w, (callFunc 27 args).run Try.prog w = .ok (.enter 27 args) w := enters_of Try.func27 (by kernel_rfl) rfl
theorem eg28 : ∀ args w, (callFunc 28 args).run Try.prog w = .ok (.enter 28 args) w := enters_of Try.func28 (by kernel_rfl) rfl
theorem which34 {W : World} {B g bm : Nat} {v : Value} {m : Ents} {F : Nat → Prop} {S : PoolS} (h : PoolAt W B g bm v m F S) (tb : Nat) (b : S40) (ht : W.heap[tb]? = some (.cells #[.int .i64 b.f0, .int .i64 b.f1] 40 (0, 0))) (hf : ¬ F tb) :
    WhichOk W bm v.ownBlock 34 #[.pointer (some ⟨tb, 0, none⟩)] (isAt b) := by
  intro a c W' m' hk _ _
  exact same34 W' tb a b (blk_kept ht hk (fun z => z.elim (fun z => hf (z ▸ h.hF.2)) (fun z => hf (h.own tb z.symm).1)))
theorem which33 {W : World} {B g bm : Nat} {v : Value} {m : Ents} {F : Nat → Prop} {S : PoolS} (h : PoolAt W B g bm v m F S) (tb : Nat) (b : S40) (ht : W.heap[tb]? = some (.cells #[.int .i64 b.f0, .int .i64 b.f1] 40 (0, 0))) (hf : ¬ F tb) :
    WhichOk W bm v.ownBlock 33 #[.pointer (some ⟨tb, 0, none⟩)] (isAt b) := by
  intro a c W' m' hk _ _
  exact same33 W' tb a b (blk_kept ht hk (fun z => z.elim (fun z => hf (z ▸ h.hF.2)) (fun z => hf (h.own tb z.symm).1)))
def hasId (id : Int) (a : S40) (_ : Cont) : Bool := a.f0 == id
theorem which28 {W : World} {B g bm : Nat} {v : Value} {m : Ents} {F : Nat → Prop} {S : PoolS} (h : PoolAt W B g bm v m F S) (tb : Nat) (id : Int) (ht : W.heap[tb]? = some (.cells #[.int .i64 id] 3 (0, 0))) (hf : ¬ F tb) :
    WhichOk W bm v.ownBlock 28 #[.pointer (some ⟨tb, 0, none⟩)] (hasId id) := by
  intro a c W' m' hk _ _
  exact drop28 W' tb a id (blk_kept ht hk (fun z => z.elim (fun z => hf (z ▸ h.hF.2)) (fun z => hf (h.own tb z.symm).1)))
def older (b : S40) (ver : Int) (a : S40) (c : Cont) : Bool := decide (a = b) && decide (c.ver < ver)
theorem which27 {W : World} {B g bm : Nat} {v : Value} {m : Ents} {F : Nat → Prop} {S : PoolS} (h : PoolAt W B g bm v m F S) (pb xb vb : Nat) (b : S40) (ver : Int) (hp : W.heap[pb]? = some (.cells #[.int .i64 b.f0, .int .i64 b.f1] 40 (0, 0))) (hx : W.heap[xb]? = some (.cells #[.pointer (some ⟨g, 0, none⟩)] 23 (0, 0))) (hv : W.heap[vb]? = some (.cells #[.int .i64 ver] 3 (0, 0)))
    (f1 : ¬ F pb) (f2 : ¬ F xb) (f3 : ¬ F vb) :
    WhichOk W bm v.ownBlock 27 #[.pointer (some ⟨pb, 0, none⟩), .pointer (some ⟨xb, 0, none⟩), .pointer (some ⟨vb, 0, none⟩)] (older b ver) := by
  intro a c W' m' hk hm hl
  have far : ∀ {k}, ¬ F k → ¬ (k = bm ∨ some k = v.ownBlock) := fun hf z => z.elim (fun z => hf (z ▸ h.hF.2)) (fun z => hf (h.own _ z.symm).1)
  refine inv27 W' pb xb vb g bm a b ver c m' _ _ _ _ (blk_kept hp hk (far f1)) (blk_kept hx hk (far f2)) (blk_kept hv hk (far f3)) (blk_kept h.hg hk (fun z => z.elim (h.hm.ne h.hg) (fun z => (h.own g z.symm).2.1 rfl))) hm hl
theorem info40 : (Try.prog.info? 40).map (fun i => (i.zero, i.size, i.bytes)) = some (some (.agg #[.int .i64 0, .int .i64 0]), k40.sz, 16) := by kernel_rfl
/-- The new pool, out of what use has written. -/
theorem used_at {W W2 w3 w4 : World} {B g bm2 : Nat} {v2 v4 : Value} {m2 : Ents} {F F1 : Nat → Prop} {S : PoolS} {a : S40} {c : Cont} (hl : S.ents.length < 1000000) (hW2 : W.heap.size ≤ W2.heap.size)
    (hP2 : PoolAt W2 B g bm2 v2 m2 F1 (forgot (isAt a) S)) (hF1 : ∀ k, F1 k → F k ∨ W.heap.size ≤ k) (hk2 : Kept W W2 F) (hb2 : Below B W W2) (hBW : B ≤ W.heap.size) (hFr : ∀ k, F k → B ≤ k ∧ k < W.heap.size) (hg0 : F g)
    (hm3 : MapIs w3 bm2 (upd a c m2)) (hg3 : W2.grownBy w3 (some bm2)) (hR : Kd.R k40 40 w4 B (fun k => F1 k ∨ w3.heap.size ≤ k) v4 (keys (keepEnts (isAt a) S.ents) ++ [a])) (hg4 : w3.grownBy w4 v2.ownBlock) (hb4 : Below B w3 w4) :
    PoolPost B g F (used a c S) W (w4.setCell ⟨g, 2, none⟩ v4) := by
  have hown := hP2.own
  have hgbm : g ≠ bm2 := hP2.hm.ne hP2.hg
  have hgv : some g ≠ v2.ownBlock := fun z => (hown g z.symm).2.1 rfl
  have hbv : some bm2 ≠ v2.ownBlock := fun z => (hown bm2 z.symm).2.2 rfl
  have hs3 := hg3.size
  have hs4 := hg4.size
  have hsz : (w4.setCell ⟨g, 2, none⟩ v4).heap.size = w4.heap.size := by simp [World.setCell]
  obtain ⟨rb, cap, hv4, hrow, hBr, hcm, hokr⟩ := R_row hR (by simp)
  have hgw : w4.heap[g]? = some (.cells #[.int .i64 S.cap, .map (some bm2), v2, .int .i64 S.hits, .int .i64 S.miss] 61 (0, 0)) := blk_grown (blk_grown hP2.hg hg3 (fun z => hgbm (Option.some.inj z))) hg4 hgv
  have hkl : (keepEnts (isAt a) S.ents).length ≤ S.ents.length := List.length_filter_le _ _
  have hrl : rb < w4.heap.size := hrow.lt
  refine ⟨fun k => (F k ∨ W.heap.size ≤ k) ∧ k < w4.heap.size, ⟨bm2, v4, upd a c m2, { hg := ?_, hm := ?_, hl := ?_, hn := nodup_used a c S.ents hP2.hn, row := Or.inr ⟨rb, cap, ?_, ?_, hBr, hcm, ?_⟩, hF := ⟨⟨Or.inl hg0, ?_⟩, hF1 _ hP2.hF.2, ?_⟩, hr := ?_, len := ?_ }⟩, fun k hk => hk.1, ?_, ?_⟩
  · exact blk_put hgw 2 v4 (by rfl)
  · exact (hm3.move (hg4.block bm2 hm3.lt hbv)).move (Below.heap_setCell _ _ _ _ (fun e => hgbm e.symm))
  · exact fun b => look_used a c S.ents m2 hP2.hl b
  · rw [hv4]; show _ = Value.slice _ (keys (usedEnts a c S.ents)).length cap; rw [usedEnts, keys_snoc]
  · show RowAt _ rb cap (keys (usedEnts a c S.ents)); rw [usedEnts, keys_snoc]; exact hrow.move (Below.heap_setCell _ _ _ _ (fun e => hrow.ne hgw (by decide) e.symm))
  · exact ⟨hokr.elim (fun z => hF1 _ z) (fun z => Or.inr (by omega)), hrl⟩
  · have := blk_lt hgw; omega
  · have := hm3.lt; omega
  · rintro k ⟨h1, h2⟩
    exact ⟨h1.elim (fun z => (hFr k z).1) (fun z => by omega), by rw [hsz]; exact h2⟩
  · show (usedEnts a c S.ents).length ≤ _
    rw [usedEnts, List.length_append, List.length_singleton]; omega
  · exact (((Kept.of_grown hg3 hk2 (fun k hk => by cases hk; exact hF1 _ hP2.hF.2)).of_grown hg4 (fun k hk => hF1 _ (hown k hk).1))).setCell (Or.inl hg0) _
  · exact ((hb2.grown hg3 (by omega) (fun k hk => by cases hk; exact (hP2.hr _ hP2.hF.2).1)).trans hb4).setCell (hP2.hr _ hP2.hF.1).1 _
set_option maxHeartbeats 2000000 in
set_option maxRecDepth 100000 in
theorem use_calls (W : World) (B g : Nat) (F : Nat → Prop) (S : PoolS) (a : S40) (c : Cont) (hP : PoolIs W B g F S) (hl : S.ents.length < 1000000) :
    Calls Try.prog 25 #[.pointer (some ⟨g, 0, none⟩), encP a, encC c] W fun e W' => e = .returned (.tuple #[]) ∧ PoolPost B g F (used a c S) W W' := by
  have hFr := hP.range
  obtain ⟨bm, v, m, hP⟩ := hP
  have hg0 := hP.hF.1
  have hgl := (hFr g hg0)
  have hb1 := below_two W (.cells #[.int .i64 a.f0, .int .i64 a.f1] 40) (.cells #[.string c.data, .int .i64 c.ver] 64)
  have hP1 := hP.below hb1
  have ht1 : ((W.alloc (.cells #[.int .i64 a.f0, .int .i64 a.f1] 40)).alloc (.cells #[.string c.data, .int .i64 c.ver] 64)).heap[W.heap.size]? = some (.cells #[.int .i64 a.f0, .int .i64 a.f1] 40 (0, 0)) := blk_alloc (blk_new _ _) _
  have hc1 : ((W.alloc (.cells #[.int .i64 a.f0, .int .i64 a.f1] 40)).alloc (.cells #[.string c.data, .int .i64 c.ver] 64)).heap[W.heap.size + 1]? = some (.cells #[.string c.data, .int .i64 c.ver] 64 (0, 0)) := by
    have := blk_new (W.alloc (.cells #[.int .i64 a.f0, .int .i64 a.f1] 40)) (.cells #[.string c.data, .int .i64 c.ver] 64)
    simpa using this
  have hcall := forget_calls _ B g bm v m F S 34 #[.pointer (some ⟨W.heap.size, 0, none⟩)] (isAt a) eg34 hP1 (which34 hP1 _ a ht1 (fun z => by have := (hFr _ z).2; omega))
  have HCALL := Aside0.mk hcall
  have HT1 := Aside0.mk ht1
  have HC1 := Aside0.mk hc1
  have HB1 := Aside0.mk hb1
  have HFR := Aside0.mk hFr
  have HG0 := Aside0.mk hg0
  have hu64 := Try.underlying64
  clear hcall ht1 hc1 hb1 hFr hg0 hP hP1
  unfold encP encC
  go_enter Try.func25, Try.ntmps25
  go_wp2_with fail
  refine HCALL.out.mono ?_
  rintro e W2 ⟨rfl, F1, ⟨bm2, v2, m2, hP2⟩, hF1, hk2, hb2⟩
  have HF1 := Aside0.mk (fun k (hk : F1 k) => (hF1 k hk).imp id (fun (z : _ ≤ k) => show W.heap.size + 2 ≤ k by simp at z; omega))
  have HT2 := Aside0.mk (blk_kept HT1.out hk2 (fun z => by have := (HFR.out _ z).2; omega))
  have HC2 := Aside0.mk (blk_kept HC1.out hk2 (fun z => by have := (HFR.out _ z).2; omega))
  have HP2 := Aside0.mk hP2
  have HK2 := Aside0.mk ((Kept.of_below HB1.out F).then_ hk2 (fun k hk => Or.inl hk))
  have HB2 := Aside0.mk ((HB1.out.mono (show B ≤ W.heap.size by omega)).trans hb2)
  have hsz2 : W.heap.size + 2 ≤ W2.heap.size := by have := hb2.size; simp at this; omega
  have cg2 : W2.cell? ⟨g, 1, none⟩ = some (.map (some bm2)) := by rw [blk_cell hP2.hg]; rfl
  have ct0 : W2.cell? ⟨W.heap.size, 0, none⟩ = some (.int .i64 a.f0) := by rw [blk_cell HT2.out]; rfl
  have ct1 : W2.cell? ⟨W.heap.size, 1, none⟩ = some (.int .i64 a.f1) := by rw [blk_cell HT2.out]; rfl
  have cc0 : W2.cell? ⟨W.heap.size + 1, 0, none⟩ = some (.string c.data) := by rw [blk_cell HC2.out]; rfl
  have cc1 : W2.cell? ⟨W.heap.size + 1, 1, none⟩ = some (.int .i64 c.ver) := by rw [blk_cell HC2.out]; rfl
  obtain ⟨w3, hrun, hm3, hg3⟩ := (show MapIs W2.drew bm2 m2 from hP2.hm).run_update Try.underlying59 a c
  have HM3 := Aside0.mk hm3
  have HG3 := Aside0.mk (show W2.grownBy w3 (some bm2) from ⟨hg3.os, hg3.tape, hg3.output, hg3.size, hg3.block⟩)
  unfold encP encC at hrun
  clear hP2 hF1 hk2 hb2 HCALL HT1 HC1 HB1 hm3 hg3
  go_wp2_with fail
  refine start_ (n := 7) (S := fun w' => w'.cell? ⟨g, 1, none⟩ = some (.map (some bm2)) ∧ w'.cell? ⟨W.heap.size, 0, none⟩ = some (.int .i64 a.f0) ∧ w'.cell? ⟨W.heap.size, 1, none⟩ = some (.int .i64 a.f1) ∧ w'.cell? ⟨W.heap.size + 1, 0, none⟩ = some (.string c.data) ∧ w'.cell? ⟨W.heap.size + 1, 1, none⟩ = some (.int .i64 c.ver)) (ds := [6]) #[false, false, false, false, false, false, false] (by kernel_rfl) rfl rfl ⟨cg2, ct0, ct1, cc0, cc1⟩ (fun hHeld => ?_)
  refine pure_ (i := 0) (N := some 9) (v := ?_) (a' := ?_) #[true, false, false, false, false, false, false] rfl rfl (by kernel_rfl) (fun _ _ _ h => h) (Or.inl ⟨by rfl, ?_⟩) ?_ ?_
  rotate_left
  · intro w'
    go_simp
    with_reducible rfl
  rotate_left
  · simp only [Act.put, List.setIfInBounds_toArray, List.set_cons_zero, List.set_cons_succ, i64_w, i32_w]
    rfl
  refine pure_ (i := 1) (N := some 10) (v := ?_) (a' := ?_) #[true, true, false, false, false, false, false] rfl rfl (by kernel_rfl) (fun _ _ _ h => h) (Or.inl ⟨by rfl, ?_⟩) ?_ ?_
  rotate_left
  · intro w'
    go_simp
    with_reducible rfl
  rotate_left
  · simp only [Act.put, List.setIfInBounds_toArray, List.set_cons_zero, List.set_cons_succ, i64_w, i32_w]
    rfl
  refine pure_ (i := 2) (N := some 11) (v := ?_) (a' := ?_) #[true, true, true, false, false, false, false] rfl rfl (by kernel_rfl) (fun _ _ _ h => h) (Or.inl ⟨by rfl, ?_⟩) ?_ ?_
  rotate_left
  · intro w'
    go_simp
    with_reducible rfl
  rotate_left
  · simp only [Act.put, List.setIfInBounds_toArray, List.set_cons_zero, List.set_cons_succ, i64_w, i32_w]
    rfl
  refine take_ (i := 3) (N := some 12) (v := ?_) (a' := ?_) #[true, true, true, true, false, false, false] rfl rfl (by kernel_rfl) (fun _ _ _ h => h) (Or.inl ⟨by rfl, ?_⟩) hHeld ?_ ?_
  rotate_left
  · rintro w' ⟨s0, s1, s2, s3, s4⟩
    go_simp
    with_reducible rfl
  rotate_left
  · simp only [Act.put, List.setIfInBounds_toArray, List.set_cons_zero, List.set_cons_succ, i64_w, i32_w]
    rfl
  refine take_ (i := 4) (N := some 13) (v := ?_) (a' := ?_) #[true, true, true, true, true, false, false] rfl rfl (by kernel_rfl) (fun _ _ _ h => h) (Or.inl ⟨by rfl, ?_⟩) hHeld ?_ ?_
  rotate_left
  · rintro w' ⟨s0, s1, s2, s3, s4⟩
    go_simp
    with_reducible rfl
  rotate_left
  · simp only [Act.put, List.setIfInBounds_toArray, List.set_cons_zero, List.set_cons_succ, i64_w, i32_w]
    rfl
  refine take_ (i := 5) (N := some 14) (v := ?_) (a' := ?_) #[true, true, true, true, true, true, false] rfl rfl (by kernel_rfl) (fun _ _ _ h => h) (Or.inl ⟨by rfl, ?_⟩) hHeld ?_ ?_
  rotate_left
  · rintro w' ⟨s0, s1, s2, s3, s4⟩
    go_simp
    with_reducible rfl
  rotate_left
  · simp only [Act.put, List.setIfInBounds_toArray, List.set_cons_zero, List.set_cons_succ, i64_w, i32_w]
    rfl
  refine last_ (i := 6) (N := none) #[true, true, true, true, true, true, true] rfl rfl (by kernel_rfl) (by decide) (fun K hK => ?_)
  refine skip_ (w1 := ?_) (by rfl) rfl ?_ ?_
  rotate_left
  · go_simp
    rfl
  refine hK.out _ _ ?_
  clear hK K
  refine done_ (by kernel_rfl) ?_
  clear cg2 ct0 ct1 cc0 cc1 hrun
  have ne2 : ∀ {k cs t}, W2.heap[k]? = some (.cells cs t (0, 0)) → some k ≠ some bm2 := fun h z => HP2.out.hm.ne h (Option.some.inj z)
  have HT3 := Aside0.mk (blk_grown HT2.out HG3.out (ne2 HT2.out))
  have HP3 := Aside0.mk (blk_grown HP2.out.hg HG3.out (ne2 HP2.out.hg))
  have hsz3 : W2.heap.size ≤ w3.heap.size := HG3.out.size
  have HR3 := Aside0.mk (show Kd.R k40 40 w3 B (fun k => F1 k ∨ w3.heap.size ≤ k) v2 (keys (keepEnts (isAt a) S.ents)) from
    Kd.R_grown1 (HP2.out.R _ (fun k hk => Or.inl hk)) rfl HG3.out (fun z => (HP2.out.own bm2 z.symm).2.2 rfl))
  have cg3 : w3.cell? ⟨g, 2, none⟩ = some v2 := by rw [blk_cell HP3.out]; rfl
  have ct30 : w3.cell? ⟨W.heap.size, 0, none⟩ = some (.int .i64 a.f0) := by rw [blk_cell HT3.out]; rfl
  have ct31 : w3.cell? ⟨W.heap.size, 1, none⟩ = some (.int .i64 a.f1) := by rw [blk_cell HT3.out]; rfl
  have hgv : some g ≠ v2.ownBlock := fun z => (HP2.out.own g z.symm).2.1 rfl
  clear ne2
  go_wp2_with fail
  refine start_ (n := 11) (S := fun w' => w'.cell? ⟨g, 2, none⟩ = some v2 ∧ w'.cell? ⟨W.heap.size, 0, none⟩ = some (.int .i64 a.f0) ∧ w'.cell? ⟨W.heap.size, 1, none⟩ = some (.int .i64 a.f1)) (ds := [10]) #[false, false, false, false, false, false, false, false, false, false, false] (by kernel_rfl) rfl rfl ⟨cg3, ct30, ct31⟩ (fun hHeld => ?_)
  refine pure_ (i := 0) (N := some 15) (v := ?_) (a' := ?_) #[true, false, false, false, false, false, false, false, false, false, false] rfl rfl (by kernel_rfl) (fun _ _ _ h => h) (Or.inl ⟨by rfl, ?_⟩) ?_ ?_
  rotate_left
  · intro w'
    go_simp
    with_reducible rfl
  rotate_left
  · simp only [Act.put, List.setIfInBounds_toArray, List.set_cons_zero, List.set_cons_succ, i64_w, i32_w]
    rfl
  refine pure_ (i := 1) (N := some 16) (v := ?_) (a' := ?_) #[true, true, false, false, false, false, false, false, false, false, false] rfl rfl (by kernel_rfl) (fun _ _ _ h => h) (Or.inl ⟨by rfl, ?_⟩) ?_ ?_
  rotate_left
  · intro w'
    go_simp
    with_reducible rfl
  rotate_left
  · simp only [Act.put, List.setIfInBounds_toArray, List.set_cons_zero, List.set_cons_succ, i64_w, i32_w]
    rfl
  refine pure_ (i := 2) (N := some 17) (v := ?_) (a' := ?_) #[true, true, true, false, false, false, false, false, false, false, false] rfl rfl (by kernel_rfl) (fun _ _ _ h => h) (Or.inl ⟨by rfl, ?_⟩) ?_ ?_
  rotate_left
  · intro w'
    go_simp
    with_reducible rfl
  rotate_left
  · simp only [Act.put, List.setIfInBounds_toArray, List.set_cons_zero, List.set_cons_succ, i64_w, i32_w]
    rfl
  refine pure_ (i := 3) (N := some 18) (v := ?_) (a' := ?_) #[true, true, true, true, false, false, false, false, false, false, false] rfl rfl (by kernel_rfl) (fun _ _ _ h => h) (Or.inl ⟨by rfl, ?_⟩) ?_ ?_
  rotate_left
  · intro w'
    go_simp
    with_reducible rfl
  rotate_left
  · simp only [Act.put, List.setIfInBounds_toArray, List.set_cons_zero, List.set_cons_succ, i64_w, i32_w]
    rfl
  refine take_ (i := 4) (N := some 19) (v := ?_) (a' := ?_) #[true, true, true, true, true, false, false, false, false, false, false] rfl rfl (by kernel_rfl) (fun _ _ _ h => h) (Or.inl ⟨by rfl, ?_⟩) hHeld ?_ ?_
  rotate_left
  · rintro w' ⟨s0, s1, s2⟩
    go_simp
    with_reducible rfl
  rotate_left
  · simp only [Act.put, List.setIfInBounds_toArray, List.set_cons_zero, List.set_cons_succ, i64_w, i32_w]
    rfl
  refine take_ (i := 5) (N := some 20) (v := ?_) (a' := ?_) #[true, true, true, true, true, true, false, false, false, false, false] rfl rfl (by kernel_rfl) (fun _ _ _ h => h) (Or.inl ⟨by rfl, ?_⟩) hHeld ?_ ?_
  rotate_left
  · rintro w' ⟨s0, s1, s2⟩
    go_simp
    with_reducible rfl
  rotate_left
  · simp only [Act.put, List.setIfInBounds_toArray, List.set_cons_zero, List.set_cons_succ, i64_w, i32_w]
    rfl
  refine one_ (i := 6) (N := some 21) #[true, true, true, true, true, true, true, false, false, false, false] rfl rfl (by kernel_rfl) (by decide) (fun K hK => ?_)
  refine value_ (w1 := ?_) (v := ?_) (by rfl) rfl ?_ ?_
  rotate_left 2
  · go_simp
    constructor
    · rfl
    · rfl
  refine hK.out _ _ ⟨((blk_cell (blk_alloc HP3.out _) 2).trans rfl), ((blk_cell (blk_alloc HT3.out _) 0).trans rfl), ((blk_cell (blk_alloc HT3.out _) 1).trans rfl)⟩ (fun hHeld => ?_)
  clear hK K
  refine norm_ (a' := ?_) ?_ ?_
  rotate_left
  · show Act.put _ (some 21) _ = _
    simp only [Act.put, List.setIfInBounds_toArray, List.set_cons_zero, List.set_cons_succ, i64_w, i32_w]
    rfl
  refine one_ (i := 7) (N := some 22) #[true, true, true, true, true, true, true, true, false, false, false] rfl rfl (by kernel_rfl) (by decide) (fun K hK => ?_)
  rw [show (w3.alloc (.cells #[.int .i64 a.f0, .int .i64 a.f1] 40)).drew = w3.drew.alloc (.cells #[.int .i64 a.f0, .int .i64 a.f1] 40) from rfl]
  refine Kd.R_append_step k40 (w0 := w3.drew) B (by rfl) (.tmp 19) (.tmp 21) 28 40 (.agg #[.int .i64 0, .int .i64 0]) 16 rfl Try.underlying28 info40 rfl (by decide) (by omega) v2 (keys (keepEnts (isAt a) S.ents)) a [.int .i64 a.f0, .int .i64 a.f1] (fun k => F1 k ∨ w3.heap.size ≤ k) (fun _ => False) rfl rfl (k40_mkM _ _ _ a) (fun _ h => h.elim) (fun k hk => Or.inr hk) (Kd.R_drew HR3.out) (Below.refl _ _) ?aS ?aL ?_
  (case aS => show B ≤ w3.heap.size; omega)
  (case aL => have h1 := keys_length (keepEnts (isAt a) S.ents); have h2 : (keepEnts (isAt a) S.ents).length ≤ S.ents.length := List.length_filter_le _ _; omega)
  intro v4 w4 hR hb4 hg4 hat
  obtain ⟨A4, c4, hv4, _, _⟩ := Kd.R_reads hR
  subst hv4
  have HR4 := Aside0.mk hR
  have HG4 := Aside0.mk (show w3.grownBy w4 v2.ownBlock from ⟨hg4.os, hg4.tape, hg4.output, hg4.size, hg4.block⟩)
  have HB4 := Aside0.mk (show Below B w3 w4 from ⟨hb4.os, hb4.tape, hb4.output, hb4.size, hb4.block⟩)
  have HP4 := Aside0.mk (blk_grown HP3.out HG4.out hgv)
  have HT4 := Aside0.mk (blk_grown HT3.out HG4.out (fun z => by exact (HF1.out _ (HP2.out.own _ z.symm).1).elim (fun y => by have := (HFR.out _ y).2; omega) (fun y => by omega)))
  have cg4 : w4.cell? ⟨g, 2, none⟩ = some v2 := (by rw [blk_cell HP4.out]; rfl)
  have fg4 : w4.frozen? ⟨g, 2, none⟩ = false := blk_frozen HP4.out 2
  clear hR hb4 hg4 hat
  refine hK.out _ _ ⟨cg4, ((blk_cell HT4.out 0).trans rfl), ((blk_cell HT4.out 1).trans rfl)⟩ (fun hHeld => ?_)
  clear hK K
  refine norm_ (a' := ?_) ?_ ?_
  rotate_left
  · show Act.put _ (some 22) _ = _
    simp only [Act.put, List.setIfInBounds_toArray, List.set_cons_zero, List.set_cons_succ, i64_w, i32_w]
    rfl
  refine pure_ (i := 8) (N := some 23) (v := ?_) (a' := ?_) #[true, true, true, true, true, true, true, true, true, false, false] rfl rfl (by kernel_rfl) (fun _ _ _ h => h) (Or.inl ⟨by rfl, ?_⟩) ?_ ?_
  rotate_left
  · intro w'
    go_simp
    with_reducible rfl
  rotate_left
  · simp only [Act.put, List.setIfInBounds_toArray, List.set_cons_zero, List.set_cons_succ, i64_w, i32_w]
    rfl
  refine pure_ (i := 9) (N := some 24) (v := ?_) (a' := ?_) #[true, true, true, true, true, true, true, true, true, true, false] rfl rfl (by kernel_rfl) (fun _ _ _ h => h) (Or.inl ⟨by rfl, ?_⟩) ?_ ?_
  rotate_left
  · intro w'
    go_simp
    with_reducible rfl
  rotate_left
  · simp only [Act.put, List.setIfInBounds_toArray, List.set_cons_zero, List.set_cons_succ, i64_w, i32_w]
    rfl
  refine last_ (i := 10) (N := none) #[true, true, true, true, true, true, true, true, true, true, true] rfl rfl (by kernel_rfl) (by decide) (fun K hK => ?_)
  refine skip_ (w1 := ?_) (by rfl) rfl ?_ ?_
  rotate_left
  · go_simp
    rfl
  refine hK.out _ _ ?_
  clear hK K
  refine done_ (by kernel_rfl) ?_
  go_wp2_with fail
  go_end0
  exact ⟨rfl, used_at hl (by omega) HP2.out (fun k hk => (HF1.out k hk).imp id (fun z => by omega)) HK2.out HB2.out (by omega) HFR.out HG0.out HM3.out HG3.out (by have h := HR4.out; rw [List.length_append, List.length_singleton] at h; exact h) HG4.out HB4.out⟩
end Go.Proofs.Ytlfmlmnpbcidnaa.PG
