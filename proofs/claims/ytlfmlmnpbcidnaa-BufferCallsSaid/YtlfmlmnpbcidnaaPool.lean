/- The pool of pages in memory, and forget. -/
import Derived.Test.YtlfmlmnpbcidnaaDelete
namespace Go.Proofs.Ytlfmlmnpbcidnaa.PG
open Go.RowKit Go.Proofs.YtlfmlmnpbcidnaaW.PrintWords Go.Proofs.YtlfmlmnpbcidnaaW.PrintLast Go.Proofs.YtlfmlmnpbcidnaaW.PrintMore
set_option linter.unusedVariables false
set_option linter.unusedSimpArgs false
/-! ### the pool -/
structure PoolS where
  cap : Int
  ents : Ents
  hits : Int
  miss : Int
/-- The pool at block g: its struct, its map (block bm), its order (v); F: the blocks that may be its own; B: no block of its own lies below. -/
structure PoolAt (W : World) (B g bm : Nat) (v : Value) (m : Ents) (F : Nat → Prop) (S : PoolS) : Prop where
  hg : W.heap[g]? = some (.cells #[.int .i64 S.cap, .map (some bm), v, .int .i64 S.hits, .int .i64 S.miss] 61 (0, 0))
  hm : MapIs W bm m
  hl : ∀ a, look a m = look a S.ents
  hn : (keys S.ents).Nodup
  row : (v = .slice none 0 0 ∧ S.ents = []) ∨ ∃ rb cap, v = .slice (some ⟨rb, 0, none⟩) (keys S.ents).length cap ∧ RowAt W rb cap (keys S.ents) ∧ B ≤ rb ∧ cap ≤ maxLen ∧ F rb
  hF : F g ∧ F bm
  hr : ∀ k, F k → B ≤ k ∧ k < W.heap.size
  len : S.ents.length ≤ 1000000
def PoolIs (W : World) (B g : Nat) (F : Nat → Prop) (S : PoolS) : Prop := ∃ bm v m, PoolAt W B g bm v m F S
/-- Behind a call on a pool. -/
def PoolPost (B g : Nat) (F : Nat → Prop) (S' : PoolS) (W W' : World) : Prop := ∃ F' : Nat → Prop, PoolIs W' B g F' S' ∧ (∀ k, F' k → F k ∨ W.heap.size ≤ k) ∧ Kept W W' F ∧ Below B W W'
theorem PoolAt.move {W W' : World} {B g bm : Nat} {v : Value} {m : Ents} {F : Nat → Prop} {S : PoolS} (h : PoolAt W B g bm v m F S) (hb : ∀ k, F k → W'.heap[k]? = W.heap[k]?) (hs : W.heap.size ≤ W'.heap.size) : PoolAt W' B g bm v m F S :=
  { hg := (hb g h.hF.1).trans h.hg
    hm := h.hm.move (hb bm h.hF.2)
    hl := h.hl
    hn := h.hn
    row := by
      rcases h.row with hr | ⟨rb, cap, h1, h2, h3, h4, h5⟩
      · exact Or.inl hr
      · exact Or.inr ⟨rb, cap, h1, h2.move (hb rb h5), h3, h4, h5⟩
    hF := h.hF
    hr := fun k hk => ⟨(h.hr k hk).1, by have := (h.hr k hk).2; omega⟩
    len := h.len }
theorem PoolAt.below {W W' : World} {B g bm : Nat} {v : Value} {m : Ents} {F : Nat → Prop} {S : PoolS} (h : PoolAt W B g bm v m F S) (hb : Below W.heap.size W W') : PoolAt W' B g bm v m F S :=
  h.move (fun k hk => hb.block k (h.hr k hk).2) hb.size
theorem PoolAt.more {W : World} {B g bm : Nat} {v : Value} {m : Ents} {F F' : Nat → Prop} {S : PoolS} (h : PoolAt W B g bm v m F S) (h1 : ∀ k, F k → F' k) (h2 : ∀ k, F' k → B ≤ k ∧ k < W.heap.size) : PoolAt W B g bm v m F' S :=
  { h with
    row := by
      rcases h.row with hr | ⟨rb, cap, e1, e2, e3, e4, e5⟩
      · exact Or.inl hr
      · exact Or.inr ⟨rb, cap, e1, e2, e3, e4, h1 _ e5⟩
    hF := ⟨h1 _ h.hF.1, h1 _ h.hF.2⟩
    hr := h2 }
theorem PoolIs.move {W W' : World} {B g : Nat} {F : Nat → Prop} {S : PoolS} (h : PoolIs W B g F S) (hb : ∀ k, F k → W'.heap[k]? = W.heap[k]?) (hs : W.heap.size ≤ W'.heap.size) : PoolIs W' B g F S := by
  obtain ⟨bm, v, m, h⟩ := h
  exact ⟨bm, v, m, h.move hb hs⟩
theorem PoolIs.below {W W' : World} {B g : Nat} {F : Nat → Prop} {S : PoolS} (h : PoolIs W B g F S) (hb : Below W.heap.size W W') : PoolIs W' B g F S := by
  obtain ⟨bm, v, m, h⟩ := h
  exact ⟨bm, v, m, h.below hb⟩
theorem PoolIs.range {W : World} {B g : Nat} {F : Nat → Prop} {S : PoolS} (h : PoolIs W B g F S) : ∀ k, F k → B ≤ k ∧ k < W.heap.size := by
  obtain ⟨bm, v, m, h⟩ := h
  exact h.hr
/-- What is kept of the entries. -/
def keepEnts (p : S40 → Cont → Bool) (es : Ents) : Ents := es.filter fun e => !p e.1 e.2
theorem look_mem (a : S40) : ∀ es : Ents, a ∈ keys es → ∃ c, look a es = some c ∧ (a, c) ∈ es
  | [], h => by cases h
  | e :: es, h => by
    simp only [look]
    by_cases he : e.1 = a
    · rw [if_pos he]
      exact ⟨e.2, rfl, by rw [← he]; exact List.mem_cons_self⟩
    · rw [if_neg he]
      rcases List.mem_cons.1 (show a ∈ e.1 :: keys es from h) with h | h
      · exact absurd h.symm he
      · obtain ⟨c, h1, h2⟩ := look_mem a es h
        exact ⟨c, h1, List.mem_cons_of_mem _ h2⟩
theorem look_self : ∀ (es : Ents) (e : S40 × Cont), (keys es).Nodup → e ∈ es → look e.1 es = some e.2
  | [], _, _, h => by cases h
  | x :: es, e, hn, h => by
    obtain ⟨h1, h2⟩ := List.nodup_cons.1 (show (x.1 :: keys es).Nodup from hn)
    simp only [look]
    rcases List.mem_cons.1 h with h | h
    · subst h; rw [if_pos rfl]
    · have hm : e.1 ∈ keys es := List.mem_map.2 ⟨e, h, rfl⟩
      rw [if_neg (fun (z : x.1 = e.1) => h1 (by rw [z]; exact hm)), look_self es e h2 h]
theorem keys_keep (p : S40 → Cont → Bool) (m : Ents) : ∀ (es : Ents), (∀ e ∈ es, look e.1 m = some e.2) → (keys es).filter (fun a => !says p m a) = keys (keepEnts p es)
  | [], _ => rfl
  | e :: es, h => by
    have ih := keys_keep p m es (fun x hx => h x (List.mem_cons_of_mem _ hx))
    have hs : says p m e.1 = p e.1 e.2 := by unfold says; rw [h e List.mem_cons_self]
    show ((e.1 :: keys es).filter _) = keys ((e :: es).filter _)
    rw [List.filter_cons, List.filter_cons, hs]
    by_cases hp : p e.1 e.2 = true
    · rw [if_neg (by simp [hp]), if_neg (by simp [hp])]
      exact ih
    · rw [if_pos (by simpa using hp), if_pos (by simpa using hp)]
      show e.1 :: _ = e.1 :: keys (keepEnts p es)
      rw [ih]
theorem look_keep (p : S40 → Cont → Bool) (a : S40) : ∀ (es : Ents), (keys es).Nodup → look a (keepEnts p es) = match look a es with | some c => if p a c = true then none else some c | none => none
  | [], _ => rfl
  | e :: es, hn => by
    obtain ⟨h1, h2⟩ := List.nodup_cons.1 (show (e.1 :: keys es).Nodup from hn)
    have ih := look_keep p a es h2
    unfold keepEnts at ih ⊢
    rw [List.filter_cons]
    simp only [look]
    by_cases he : e.1 = a
    · rw [if_pos he]
      by_cases hp : p e.1 e.2 = true
      · rw [if_neg (by simp [hp]), ih, look_none a es (he ▸ h1)]
        rw [he] at hp
        simp [hp]
      · rw [if_pos (by simpa using hp)]
        simp only [look]
        rw [if_pos he]
        rw [he] at hp
        simp [hp]
    · rw [if_neg he]
      by_cases hp : p e.1 e.2 = true
      · rw [if_neg (by simp [hp]), ih]
      · rw [if_pos (by simpa using hp)]
        simp only [look]
        rw [if_neg he, ih]
theorem nodup_keep (p : S40 → Cont → Bool) (es : Ents) (hn : (keys es).Nodup) : (keys (keepEnts p es)).Nodup :=
  List.Sublist.nodup (List.Sublist.map _ (List.filter_sublist)) hn
theorem gone_keep {p : S40 → Cont → Bool} {es m m' : Ents} (hl : ∀ a, look a m = look a es) (hn : (keys es).Nodup) (hg : Gone (says p m) (keys es) m m') : ∀ a, look a m' = look a (keepEnts p es) := by
  intro a
  rw [hg a, look_keep p a es hn, hl a]
  cases hc : look a es with
  | none => simp
  | some c =>
    have hm : a ∈ keys es := Classical.byContradiction fun h => by rw [look_none a es h] at hc; cases hc
    have hs : says p m a = p a c := by unfold says; rw [hl a, hc]
    rw [hs]
    by_cases hp : p a c = true
    · rw [if_pos ⟨hm, hp⟩]; simp [hp]
    · rw [if_neg (fun z => hp z.2)]; simp [hp]
set_option maxHeartbeats 800000 in
set_option maxRecDepth 100000 in
theorem delfun_nil (W : World) (xb wb g bm B : Nat) (f : FuncId) (caps : Array Value) (c0 v c3 c4 : Value) (p : S40 → Cont → Bool) (m : Ents) (eg : ∀ args w, (callFunc f args).run Try.prog w = .ok (.enter f args) w)
    (hp : WhichOk W bm none f caps p) (hs : Shut W xb wb g bm B f caps c0 v c3 c4) (hm : MapIs W bm m) :
    Calls Try.prog 35 #[.slice none 0 0, .func (.func 36) #[] #[.pointer (some ⟨wb, 0, none⟩), .pointer (some ⟨xb, 0, none⟩)]] W fun e W' => e = .returned (.slice none 0 0) ∧ FgPost B bm W m W' := by
  have hix := index_calls W W xb wb g bm B f caps c0 v c3 c4 p none none 0 [] m eg hp (Kept.refl _ _) hs hm (fun a ha => by cases ha) (by simp) (fun W' hk => Kd.C_nil _ _)
  have HIX := Aside0.mk hix
  clear hp hs hm hix eg
  go_enter Try.func35, Try.ntmps35
  go_wp2_with fail
  refine HIX.out.mono ?_
  rintro e W1 ⟨r, rfl, hpost⟩
  clear HIX
  rcases hpost with ⟨rfl, hall, hf⟩ | ⟨i0, hi0, _⟩
  · have HF := Aside0.mk hf
    clear hall hf
    go_wp2_with fail
    go_ret
    exact ⟨rfl, HF.out⟩
  · exact absurd hi0 (by simp)
/-! ### forget -/
theorem Shut.drew {W : World} {xb wb g bm B : Nat} {f : FuncId} {caps : Array Value} {c0 v c3 c4 : Value} (h : Shut W xb wb g bm B f caps c0 v c3 c4) : Shut W.drew xb wb g bm B f caps c0 v c3 c4 := ⟨h.hx, h.hw, h.hg, h.hB⟩
theorem MapIs.drew {W : World} {b : Nat} {m : Ents} (h : MapIs W b m) : MapIs W.drew b m := h
theorem RowAt.drew {W : World} {rb cap : Nat} {ys : List S40} (h : RowAt W rb cap ys) : RowAt W.drew rb cap ys := h
theorem WhichOk.drew {W : World} {bm : Nat} {rb : Option Nat} {f : FuncId} {caps : Array Value} {p : S40 → Cont → Bool} (h : WhichOk W bm rb f caps p) : WhichOk W.drew bm rb f caps p := h
def forgot (p : S40 → Cont → Bool) (S : PoolS) : PoolS := { S with ents := keepEnts p S.ents }
def ForgetRet (p : S40 → Cont → Bool) (B g : Nat) (F : Nat → Prop) (S : PoolS) (W W' : World) : Prop := PoolPost B g F (forgot p S) W W'
set_option maxHeartbeats 2000000 in
set_option maxRecDepth 100000 in
theorem forget_walk (W WA : World) (g bm n n' c c' : Nat) (A A' : Option Addr) (rb : Option Nat) (c0 c3 c4 : Value) (f : FuncId) (caps : Array Value) (Q : World → Prop)
    (hWA : WA = (W.alloc (.cells #[.pointer (some ⟨g, 0, none⟩)] 23)).alloc (.cells #[.func (.func f) #[] caps] 68))
    (hg : W.heap[g]? = some (.cells #[c0, .map (some bm), .slice A n c, c3, c4] 61 (0, 0))) (hn : n ≤ 1000000) (hn' : n' ≤ n) (hgb : g ≠ bm) (hgr : some g ≠ rb)
    (hbm : bm < W.heap.size) (hrb : ∀ k, rb = some k → k < W.heap.size)
    (hQ : ∀ w2, Q w2 → Kept WA w2 (fun k => k = bm ∨ some k = rb))
    (hcall : Calls Try.prog 35 #[.slice A n c, .func (.func 36) #[] #[.pointer (some ⟨W.heap.size + 1, 0, none⟩), .pointer (some ⟨W.heap.size, 0, none⟩)]] WA.drew fun e w2 => e = .returned (.slice A' n' c') ∧ Q w2) :
    Calls Try.prog 26 #[.pointer (some ⟨g, 0, none⟩), .func (.func f) #[] caps] W fun e W' => e = .returned (.int .i64 ((n : Int) - (n' : Int))) ∧ ∃ w2, Q w2 ∧ W' = w2.setCell ⟨g, 2, none⟩ (.slice A' n' c') := by
  have hlg : g < W.heap.size := blk_lt hg
  have cg0 : W.cell? ⟨g, 2, none⟩ = some (.slice A n c) := by rw [blk_cell hg]; rfl
  have hbA : Below W.heap.size W WA := by rw [hWA]; exact below_alloc (below_alloc (Below.refl _ _) _) _
  have hxA : WA.heap[W.heap.size]? = some (.cells #[.pointer (some ⟨g, 0, none⟩)] 23 (0, 0)) := by rw [hWA]; exact blk_alloc (blk_new _ _) _
  have hgA := blk_below hg hbA
  have HXA := Aside0.mk hxA
  have HGA := Aside0.mk hgA
  have HQ := Aside0.mk hQ
  have HCALL := Aside0.mk hcall
  have HWA := Aside0.mk hWA
  have HRB := Aside0.mk hrb
  have cx : WA.cell? ⟨W.heap.size, 0, none⟩ = some (.pointer (some ⟨g, 0, none⟩)) := by rw [blk_cell hxA]; rfl
  have cg : WA.cell? ⟨g, 2, none⟩ = some (.slice A n c) := by rw [blk_cell hgA]; rfl
  have hrb2 : ¬ (some W.heap.size = rb) := fun e => by have := hrb _ e.symm; omega
  clear hxA hgA hQ hcall hWA hg hbA hrb
  go_enter Try.func26, Try.ntmps26
  go_wp2_with fail
  rw [← HWA.out]
  clear cg0
  refine start_ (n := 10) (S := fun w' => w'.cell? ⟨W.heap.size, 0, none⟩ = some (.pointer (some ⟨g, 0, none⟩)) ∧ w'.cell? ⟨g, 2, none⟩ = some (.slice A n c)) (ds := [9]) #[false, false, false, false, false, false, false, false, false, false] (by kernel_rfl) rfl rfl ⟨cx, cg⟩ (fun hHeld => ?_)
  refine pure_ (i := 5) (N := some 16) (v := ?_) (a' := ?_) #[false, false, false, false, false, true, false, false, false, false] rfl rfl (by kernel_rfl) (fun _ _ _ h => h) (Or.inl ⟨by rfl, ?_⟩) ?_ ?_
  rotate_left
  · intro w'
    go_simp
    with_reducible rfl
  rotate_left
  · simp only [Act.put, List.setIfInBounds_toArray, List.set_cons_zero, List.set_cons_succ, i64_w, i32_w]
    rfl
  refine take_ (i := 0) (N := some 11) (v := ?_) (a' := ?_) #[true, false, false, false, false, true, false, false, false, false] rfl rfl (by kernel_rfl) (fun _ _ _ h => h) (Or.inl ⟨by rfl, ?_⟩) hHeld ?_ ?_
  rotate_left
  · rintro w' ⟨s0, s1⟩
    go_simp
    with_reducible rfl
  rotate_left
  · simp only [Act.put, List.setIfInBounds_toArray, List.set_cons_zero, List.set_cons_succ, i64_w, i32_w]
    rfl
  refine take_ (i := 1) (N := some 12) (v := ?_) (a' := ?_) #[true, true, false, false, false, true, false, false, false, false] rfl rfl (by kernel_rfl) (fun _ _ _ h => h) (Or.inl ⟨by rfl, ?_⟩) hHeld ?_ ?_
  rotate_left
  · rintro w' ⟨s0, s1⟩
    go_simp
    with_reducible rfl
  rotate_left
  · simp only [Act.put, List.setIfInBounds_toArray, List.set_cons_zero, List.set_cons_succ, i64_w, i32_w]
    rfl
  refine pure_ (i := 2) (N := some 13) (v := ?_) (a' := ?_) #[true, true, true, false, false, true, false, false, false, false] rfl rfl (by kernel_rfl) (fun _ _ _ h => h) (Or.inl ⟨by rfl, ?_⟩) ?_ ?_
  rotate_left
  · intro w'
    go_simp
    with_reducible rfl
  rotate_left
  · simp only [Act.put, List.setIfInBounds_toArray, List.set_cons_zero, List.set_cons_succ, i64_w, i32_w]
    rfl
  refine pure_ (i := 3) (N := some 14) (v := ?_) (a' := ?_) #[true, true, true, true, false, true, false, false, false, false] rfl rfl (by kernel_rfl) (fun _ _ _ h => h) (Or.inl ⟨by rfl, ?_⟩) ?_ ?_
  rotate_left
  · intro w'
    go_simp
    with_reducible rfl
  rotate_left
  · simp only [Act.put, List.setIfInBounds_toArray, List.set_cons_zero, List.set_cons_succ, i64_w, i32_w]
    rfl
  refine take_ (i := 4) (N := some 15) (v := ?_) (a' := ?_) #[true, true, true, true, true, true, false, false, false, false] rfl rfl (by kernel_rfl) (fun _ _ _ h => h) (Or.inl ⟨by rfl, ?_⟩) hHeld ?_ ?_
  rotate_left
  · rintro w' ⟨s0, s1⟩
    go_simp
    with_reducible rfl
  rotate_left
  · simp only [Act.put, List.setIfInBounds_toArray, List.set_cons_zero, List.set_cons_succ, i64_w, i32_w]
    rfl
  refine one_ (i := 6) (N := some 17) #[true, true, true, true, true, true, true, false, false, false] rfl rfl (by kernel_rfl) (by decide) (fun K hK => ?_)
  refine goes_ Try.func35 (by kernel_rfl) rfl #[.slice A n c, .func (.func 36) #[] #[.pointer (some ⟨W.heap.size + 1, 0, none⟩), .pointer (some ⟨W.heap.size, 0, none⟩)]] (by rfl) rfl rfl (by simp only [List.map_toArray, List.map_cons, List.map_nil]; rfl) ?_
  with_reducible refine (HCALL.out).mono ?_
  rintro e w2 ⟨rfl, hq⟩
  refine ⟨_, rfl, ?_⟩
  have HQ2 := Aside0.mk hq
  have HX2 := Aside0.mk (blk_kept HXA.out (HQ.out w2 hq) (fun z => z.elim (fun z => by omega) hrb2))
  have HG2 := Aside0.mk (blk_kept HGA.out (HQ.out w2 hq) (fun z => z.elim hgb hgr))
  have cg2 : w2.cell? ⟨g, 2, none⟩ = some (.slice A n c) := (by rw [blk_cell HG2.out]; rfl)
  have fg2 : w2.frozen? ⟨g, 2, none⟩ = false := blk_frozen HG2.out 2
  clear hq HCALL
  refine hK.out _ _ ⟨(blk_cell HX2.out 0), (blk_cell HG2.out 2)⟩ (fun hHeld => ?_)
  clear hK K
  refine norm_ (a' := ?_) ?_ ?_
  rotate_left
  · show Act.put _ (some 17) _ = _
    simp only [Act.put, List.setIfInBounds_toArray, List.set_cons_zero, List.set_cons_succ, i64_w, i32_w]
    rfl
  refine pure_ (i := 7) (N := some 18) (v := ?_) (a' := ?_) #[true, true, true, true, true, true, true, true, false, false] rfl rfl (by kernel_rfl) (fun _ _ _ h => h) (Or.inl ⟨by rfl, ?_⟩) ?_ ?_
  rotate_left
  · intro w'
    go_simp
    with_reducible rfl
  rotate_left
  · simp only [Act.put, List.setIfInBounds_toArray, List.set_cons_zero, List.set_cons_succ, i64_w, i32_w]
    rfl
  refine pure_ (i := 8) (N := some 19) (v := ?_) (a' := ?_) #[true, true, true, true, true, true, true, true, true, false] rfl rfl (by kernel_rfl) (fun _ _ _ h => h) (Or.inl ⟨by rfl, ?_⟩) ?_ ?_
  rotate_left
  · intro w'
    go_simp
    with_reducible rfl
  rotate_left
  · simp only [Act.put, List.setIfInBounds_toArray, List.set_cons_zero, List.set_cons_succ, i64_w, i32_w]
    rfl
  refine last_ (i := 9) (N := none) #[true, true, true, true, true, true, true, true, true, true] rfl rfl (by kernel_rfl) (by decide) (fun K hK => ?_)
  refine skip_ (w1 := ?_) (by rfl) rfl ?_ ?_
  rotate_left
  · go_simp
    rfl
  refine hK.out _ _ ?_
  clear hK K
  refine done_ (by kernel_rfl) ?_
  have cx3 : (w2.setCell ⟨g, 2, none⟩ (.slice A' n' c')).cell? ⟨W.heap.size, 0, none⟩ = some (.pointer (some ⟨g, 0, none⟩)) := by rw [blk_cell (blk_far HX2.out (p := ⟨g, 2, none⟩) (show W.heap.size ≠ g by omega) _)]; rfl
  have cg3 : (w2.setCell ⟨g, 2, none⟩ (.slice A' n' c')).cell? ⟨g, 2, none⟩ = some (.slice A' n' c') := by rw [blk_cell (blk_set HG2.out 2 _)]; rfl
  go_wp2_with fail
  go_ret
  exact ⟨rfl, w2, HQ2.out, rfl⟩
theorem kept_drew {W w : World} {X : Nat → Prop} (h : Kept W.drew w X) : Kept W w X := h
theorem below_drew {B : Nat} {W w : World} (h : Below B W.drew w) : Below B W w := ⟨h.os, h.tape, h.output, h.size, h.block⟩
theorem keys_length (es : Ents) : (keys es).length = es.length := List.length_map _
theorem below_two (W : World) (o1 o2 : Obj) : Below W.heap.size W ((W.alloc o1).alloc o2) := below_alloc (below_alloc (Below.refl _ _) _) _
/-- forget: what the caller's function says yes of goes; the rest stays in order. -/
theorem forget_calls (W : World) (B g bm : Nat) (v : Value) (m : Ents) (F : Nat → Prop) (S : PoolS) (f : FuncId) (caps : Array Value) (p : S40 → Cont → Bool) (eg : ∀ args w, (callFunc f args).run Try.prog w = .ok (.enter f args) w)
    (hP : PoolAt W B g bm v m F S) (hp : WhichOk W bm v.ownBlock f caps p) :
    Calls Try.prog 26 #[.pointer (some ⟨g, 0, none⟩), .func (.func f) #[] caps] W fun e W' => e = .returned (.int .i64 ((S.ents.length : Int) - ((keepEnts p S.ents).length : Int))) ∧ PoolPost B g F (forgot p S) W W' := by
  have hlg : g < W.heap.size := blk_lt hP.hg
  have hlen := hP.len
  have hkl : (keepEnts p S.ents).length ≤ S.ents.length := List.length_filter_le _ _
  have hgb : g ≠ bm := hP.hm.ne hP.hg
  obtain ⟨WA, hWA⟩ : ∃ WA, WA = (W.alloc (.cells #[.pointer (some ⟨g, 0, none⟩)] 23)).alloc (.cells #[.func (.func f) #[] caps] 68) := ⟨_, rfl⟩
  have hbA : Below W.heap.size W WA := by rw [hWA]; exact below_two _ _ _
  have hxA : WA.heap[W.heap.size]? = some (.cells #[.pointer (some ⟨g, 0, none⟩)] 23 (0, 0)) := by rw [hWA]; exact blk_alloc (blk_new _ _) _
  have hwA : WA.heap[W.heap.size + 1]? = some (.cells #[.func (.func f) #[] caps] 68 (0, 0)) := by
    have := blk_new (W.alloc (Obj.cells #[Value.pointer (some { block := g, off := 0 })] 23)) (Obj.cells #[Value.func (Fn.func f) #[] caps] 68)
    rw [hWA]; simpa using this
  have hszA : WA.heap.size = W.heap.size + 2 := by rw [hWA]; simp
  have hPA := hP.below hbA
  have hbB : Below B W WA := hbA.mono (by have := (hP.hr g hP.hF.1).1; omega)
  have hSA : Shut WA W.heap.size (W.heap.size + 1) g bm B f caps (.int .i64 S.cap) v (.int .i64 S.hits) (.int .i64 S.miss) := ⟨hxA, hwA, hPA.hg, (hP.hr bm hP.hF.2).1⟩
  have hpA : WhichOk WA bm v.ownBlock f caps p := fun a c W' m' hk hm hc => hp a c W' m' ((Kept.of_below hbA (fun k => k = bm ∨ some k = v.ownBlock)).then_ hk (fun k hk => Or.inl hk)) hm hc
  have hself : ∀ e ∈ S.ents, look e.1 m = some e.2 := fun e he => by rw [hP.hl]; exact look_self S.ents e hP.hn he
  -- the end, out of what DeleteFunc leaves
  have close : ∀ (w2 : World) (v' : Value) (m' : Ents) (rb : Option Nat), w2.heap[g]? = some (.cells #[.int .i64 S.cap, .map (some bm), v, .int .i64 S.hits, .int .i64 S.miss] 61 (0, 0)) → MapIs w2 bm m' → (∀ a, look a m' = look a (keepEnts p S.ents)) →
      ((v' = .slice none 0 0 ∧ keepEnts p S.ents = []) ∨ ∃ rb' cap, v' = .slice (some ⟨rb', 0, none⟩) (keys (keepEnts p S.ents)).length cap ∧ RowAt w2 rb' cap (keys (keepEnts p S.ents)) ∧ B ≤ rb' ∧ cap ≤ maxLen ∧ F rb') →
      (∀ k, rb = some k → F k) → Kept WA w2 (fun k => k = bm ∨ some k = rb) → Below B WA w2 → PoolPost B g F (forgot p S) W (w2.setCell ⟨g, 2, none⟩ v') := by
    intro w2 v' m' rb hg2 hm2 hl2 hrow2 hrb hk2 hb2
    have hsz2 := hb2.size
    refine ⟨F, ⟨bm, v', m', { hg := ?_, hm := hm2.move (Below.heap_setCell _ _ _ _ (fun e => hgb e.symm)), hl := hl2, hn := nodup_keep p S.ents hP.hn, row := ?_, hF := hP.hF, hr := fun k hk => ⟨(hP.hr k hk).1, ?_⟩, len := by show (keepEnts p S.ents).length ≤ _; omega }⟩, fun k hk => Or.inl hk, ?_, ?_⟩
    · exact blk_put hg2 2 v' (by rfl)
    · rcases hrow2 with hr | ⟨rb', cap, e1, e2, e3, e4, e5⟩
      · exact Or.inl hr
      · exact Or.inr ⟨rb', cap, e1, e2.move (Below.heap_setCell _ _ _ _ (fun e => e2.ne hg2 (by decide) e.symm)), e3, e4, e5⟩
    · have := (hP.hr k hk).2
      show k < (w2.setCell _ _).heap.size
      simp [World.setCell]
      omega
    · exact ((Kept.of_below hbA F).then_ hk2 (fun k hk => Or.inl (hk.elim (fun z => z ▸ hP.hF.2) (fun z => hrb k z.symm)))).setCell (Or.inl hP.hF.1) _
    · exact (hbB.trans hb2).setCell (hP.hr g hP.hF.1).1 _
  rcases hP.row with ⟨hv, he⟩ | ⟨rb, cap, hv, hrow, hBr, hcm, hFr⟩
  · subst hv
    have hcall := delfun_nil WA.drew W.heap.size (W.heap.size + 1) g bm B f caps _ _ _ _ p m eg hpA.drew hSA.drew hPA.hm.drew
    have hke : keepEnts p S.ents = [] := by rw [he]; rfl
    refine (forget_walk W WA g bm 0 0 0 0 none none none _ _ _ f caps (fun w2 => FgPost B bm WA.drew m w2) hWA hP.hg (by omega) (Nat.le_refl _) hgb (by simp) hP.hm.lt (fun k hk => by cases hk) (fun w2 hq => kept_drew (hq.2.1.mono (fun k hk => Or.inl hk))) hcall).mono ?_
    rintro e W' ⟨rfl, w2, hq, rfl⟩
    refine ⟨by rw [hke, he]; rfl, close w2 _ m none ?_ hq.1 (fun a => ?_) (Or.inl ⟨rfl, hke⟩) (fun k hk => by cases hk) (kept_drew (hq.2.1.mono (fun k hk => Or.inl hk))) (below_drew hq.2.2)⟩
    · exact blk_kept hPA.hg (kept_drew hq.2.1) hgb
    · rw [hP.hl a, hke, he]
  · subst hv
    have hkk := keys_keep p m S.ents hself
    have hrA := hrow.move (hbA.block rb hrow.lt)
    have hxl := keys_length S.ents
    have hcall := delfun_calls WA.drew W.heap.size (W.heap.size + 1) g bm B f caps _ _ _ _ p rb cap (keys S.ents) m eg hpA.drew hSA.drew hPA.hm.drew (fun a ha => by
      rw [hP.hl a]
      obtain ⟨c, hc, _⟩ := look_mem a S.ents ha
      rw [hc]; simp) hP.hn (by omega) hrA.drew hBr hcm
    rw [hkk] at hcall
    have hkl2 := keys_length (keepEnts p S.ents)
    refine (forget_walk W WA g bm _ (keys (keepEnts p S.ents)).length _ cap _ (some ⟨rb, 0, none⟩) (some rb) _ _ _ f caps (fun w2 => DelPost (says p m) (keys S.ents) m B bm rb cap WA.drew w2) hWA hP.hg (by omega) (by omega) hgb (fun z => hrow.ne hP.hg (by decide) (Option.some.inj z)) hP.hm.lt (fun k hk => by cases hk; exact hrow.lt) (fun w2 hq => kept_drew hq.2.2.1) hcall).mono ?_
    rintro e W' ⟨rfl, w2, hq, rfl⟩
    obtain ⟨q1, ⟨m', q2, q3⟩, q4, q5⟩ := hq
    rw [hkk] at q1
    refine ⟨by rw [hxl, hkl2], close w2 _ m' (some rb) ?_ q2 (gone_keep hP.hl hP.hn q3) (Or.inr ⟨rb, cap, rfl, q1, hBr, hcm, hFr⟩) (fun k hk => by cases hk; exact hFr) (kept_drew q4) (below_drew q5)⟩
    exact blk_kept hPA.hg (kept_drew q4) (fun z => z.elim hgb (fun z => hrow.ne hP.hg (by decide) (Option.some.inj z)))
end Go.Proofs.Ytlfmlmnpbcidnaa.PG
