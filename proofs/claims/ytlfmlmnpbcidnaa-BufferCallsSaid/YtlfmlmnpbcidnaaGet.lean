/- Len, Hits, New, Drop, Invalidate, Get. -/
import Derived.Test.YtlfmlmnpbcidnaaUse
import Derived.BigQuiet
namespace Go.Proofs.Ytlfmlmnpbcidnaa.PG
open Go.RowKit Go.Proofs.YtlfmlmnpbcidnaaW.PrintWords Go.Proofs.YtlfmlmnpbcidnaaW.PrintLast Go.Proofs.YtlfmlmnpbcidnaaW.PrintMore
set_option linter.unusedVariables false
set_option linter.unusedSimpArgs false
/-! ### Len, Hits, New, Drop, Invalidate -/
set_option maxRecDepth 100000 in
theorem len_calls (W : World) (B g : Nat) (F : Nat → Prop) (S : PoolS) (hP : PoolIs W B g F S) :
    Calls Try.prog 12 #[.pointer (some ⟨g, 0, none⟩)] W fun e W' => e = .returned (.int .i64 (S.ents.length : Int)) ∧ Below W.heap.size W W' := by
  obtain ⟨bm, v, m, hP⟩ := hP
  obtain ⟨A, c, hv, _, _⟩ := Kd.R_reads (hP.R F (fun _ h => h))
  subst hv
  have cg : W.cell? ⟨g, 2, none⟩ = some (.slice A (keys S.ents).length c) := by rw [blk_cell hP.hg]; rfl
  rw [keys_length] at cg
  clear hP
  go_enter Try.func12, Try.ntmps12
  go_wp2_with fail
  go_ret
  exact ⟨rfl, Below.refl _ _⟩
set_option maxRecDepth 100000 in
theorem hits_calls (W : World) (B g : Nat) (F : Nat → Prop) (S : PoolS) (hP : PoolIs W B g F S) :
    Calls Try.prog 14 #[.pointer (some ⟨g, 0, none⟩)] W fun e W' => e = .returned (.tuple #[.int .i64 S.hits, .int .i64 S.miss]) ∧ Below W.heap.size W W' := by
  obtain ⟨bm, v, m, hP⟩ := hP
  have c3 : W.cell? ⟨g, 3, none⟩ = some (.int .i64 S.hits) := by rw [blk_cell hP.hg]; rfl
  have c4 : W.cell? ⟨g, 4, none⟩ = some (.int .i64 S.miss) := by rw [blk_cell hP.hg]; rfl
  clear hP
  go_enter Try.func14, Try.ntmps14
  go_wp2_with fail
  go_quiet (fail)
  go_wp2_with fail
  go_ret2
  exact ⟨rfl, below_drewN (Below.refl _ _) _⟩
set_option maxHeartbeats 2000000 in
set_option maxRecDepth 100000 in
theorem drop_calls (W : World) (B g : Nat) (F : Nat → Prop) (S : PoolS) (id : Int) (hP : PoolIs W B g F S) :
    Calls Try.prog 20 #[.pointer (some ⟨g, 0, none⟩), .int .i64 id] W fun e W' => e = .returned (.int .i64 ((S.ents.length : Int) - ((keepEnts (hasId id) S.ents).length : Int))) ∧ PoolPost B g F (forgot (hasId id) S) W W' := by
  have hFr := hP.range
  obtain ⟨bm, v, m, hP⟩ := hP
  have hb1 : Below W.heap.size W (W.alloc (.cells #[.int .i64 id] 3)) := below_alloc (Below.refl _ _) _
  have hP1 := hP.below hb1
  have hcall := forget_calls _ B g bm v m F S 28 #[.pointer (some ⟨W.heap.size, 0, none⟩)] (hasId id) eg28 hP1 (which28 hP1 _ id (blk_new _ _) (fun z => by have := (hFr _ z).2; omega))
  have HCALL := Aside0.mk hcall
  have HB1 := Aside0.mk hb1
  have hgl := hFr g hP.hF.1
  clear hcall hb1 hP hP1
  go_enter Try.func20, Try.ntmps20
  go_wp2_with fail
  refine HCALL.out.mono ?_
  rintro e W2 ⟨rfl, F1, hP2, hF1, hk2, hb2⟩
  have HX := Aside0.mk (show PoolPost B g F (forgot (hasId id) S) W W2 from ⟨F1, hP2, fun k hk => (hF1 k hk).imp (fun z => z) (fun (z : _ ≤ k) => by simp at z; omega), (Kept.of_below HB1.out F).then_ hk2 (fun k hk => Or.inl hk), (HB1.out.mono (by omega)).trans hb2⟩)
  clear HCALL hP2 hF1 hk2 hb2 HB1 hFr
  go_wp2_with fail
  go_ret
  exact ⟨rfl, HX.out⟩
set_option maxHeartbeats 2000000 in
set_option maxRecDepth 100000 in
theorem inv_calls (W : World) (B g : Nat) (F : Nat → Prop) (S : PoolS) (a : S40) (ver : Int) (hP : PoolIs W B g F S) :
    Calls Try.prog 19 #[.pointer (some ⟨g, 0, none⟩), .int .i64 a.f0, .int .i64 a.f1, .int .i64 ver] W fun e W' => e = .returned (.bool (decide ((keepEnts (older a ver) S.ents).length < S.ents.length))) ∧ PoolPost B g F (forgot (older a ver) S) W W' := by
  have hFr := hP.range
  obtain ⟨bm, v, m, hP⟩ := hP
  have hb2 := below_two W (.cells #[.pointer (some ⟨g, 0, none⟩)] 23) (.cells #[.int .i64 ver] 3)
  have hb1 := below_alloc hb2 (.cells #[.int .i64 a.f0, .int .i64 a.f1] 40)
  have hP1 := hP.below hb1
  have fr : ∀ k, W.heap.size ≤ k → ¬ F k := fun k hk z => by have := (hFr _ z).2; omega
  have n1 := blk_new (W.alloc (.cells #[.pointer (some ⟨g, 0, none⟩)] 23)) (.cells #[.int .i64 ver] 3)
  have n2 := blk_new ((W.alloc (.cells #[.pointer (some ⟨g, 0, none⟩)] 23)).alloc (.cells #[.int .i64 ver] 3)) (.cells #[.int .i64 a.f0, .int .i64 a.f1] 40)
  have e1 : (W.alloc (.cells #[.pointer (some ⟨g, 0, none⟩)] 23)).heap.size = W.heap.size + 1 := by simp
  have e2 : ((W.alloc (.cells #[.pointer (some ⟨g, 0, none⟩)] 23)).alloc (.cells #[.int .i64 ver] 3)).heap.size = W.heap.size + 1 + 1 := by simp
  rw [e1] at n1
  rw [e2] at n2
  have hcall := forget_calls _ B g bm v m F S 27 #[.pointer (some ⟨W.heap.size + 1 + 1, 0, none⟩), .pointer (some ⟨W.heap.size, 0, none⟩), .pointer (some ⟨W.heap.size + 1, 0, none⟩)] (older a ver) eg27 hP1
    (which27 hP1 _ _ _ a ver n2 (blk_alloc (blk_alloc (blk_new _ _) _) _) (blk_alloc n1 _) (fr _ (by omega)) (fr _ (by omega)) (fr _ (by omega)))
  have HCALL := Aside0.mk hcall
  have HB1 := Aside0.mk hb1
  have hgl := hFr g hP.hF.1
  clear hcall hb1 hb2 hP hP1 fr n1 n2 e1 e2
  go_enter Try.func19, Try.ntmps19
  go_wp2_with fail
  refine HCALL.out.mono ?_
  rintro e W2 ⟨rfl, F1, hP2, hF1, hk2, hb2⟩
  have HX := Aside0.mk (show PoolPost B g F (forgot (older a ver) S) W W2 from ⟨F1, hP2, fun k hk => (hF1 k hk).imp (fun z => z) (fun (z : _ ≤ k) => by simp at z; omega), (Kept.of_below HB1.out F).then_ hk2 (fun k hk => Or.inl hk), (HB1.out.mono (by omega)).trans hb2⟩)
  clear HCALL hP2 hF1 hk2 hb2 HB1 hFr
  go_wp2_with fail
  go_ret
  exact ⟨rfl, HX.out⟩
theorem makeMap59 (w : World) : (Instr.makeMap 59 none).run Try.prog w = .ok (.map (some w.heap.size)) (w.alloc (.map #[] 0)) := by
  simp [Instr.makeMap]
set_option maxHeartbeats 2000000 in
set_option maxRecDepth 100000 in
theorem new_calls (W : World) (n : Int) (hn : (decide (n < 1) || decide (4096 < n)) = false) :
    Calls Try.prog 11 #[.int .i64 n] W fun e W' => e = .returned (.tuple #[.pointer (some ⟨W.heap.size + 1, 0, none⟩), .int .i64 0]) ∧ PoolIs W' W.heap.size (W.heap.size + 1) (fun k => k = W.heap.size ∨ k = W.heap.size + 1) ⟨n, [], 0, 0⟩ ∧ Below W.heap.size W W' := by
  have h1 : decide (n < 1) = false := by cases h : decide (n < 1) <;> simp_all
  have h2 : decide (4096 < n) = false := by cases h : decide (4096 < n) <;> simp_all
  have hk := makeMap59
  go_enter Try.func11, Try.ntmps11
  go_wp2_with fail
  go_ret2
  refine ⟨rfl, ⟨W.heap.size, .slice none 0 0, [], { hg := ?_, hm := ?_, hl := fun a => rfl, hn := List.nodup_nil, row := Or.inl ⟨rfl, rfl⟩, hF := ⟨Or.inr rfl, Or.inl rfl⟩, hr := ?_, len := Nat.zero_le _ }⟩, below_two W _ _⟩
  · have := blk_new (W.alloc (.map #[] 0)) (.cells #[.int .i64 n, .map (some W.heap.size), .slice none 0 0, .int .i64 0, .int .i64 0] 61)
    simpa using this
  · exact (MapIs.made W).move (Below.heap_alloc _ _ _ (by simp))
  · rintro k (h | h) <;> subst h <;> simp <;> omega
set_option maxRecDepth 100000 in
theorem new_no (W : World) (n : Int) (hn : (decide (n < 1) || decide (4096 < n)) = true) :
    Calls Try.prog 11 #[.int .i64 n] W fun e W' => e = .returned (.tuple #[.pointer none, .int .i64 1]) ∧ W' = W := by
  go_enter Try.func11, Try.ntmps11
  go_wp2_with fail
  all_goals (go_ret2; exact ⟨rfl, rfl⟩)
/-! ### Get -/
theorem PoolAt.cell {W : World} {B g bm : Nat} {v : Value} {m : Ents} {F : Nat → Prop} {S : PoolS} (h : PoolAt W B g bm v m F S) (hi ms : Int) {W' : World}
    (hg : W'.heap[g]? = some (.cells #[.int .i64 S.cap, .map (some bm), v, .int .i64 hi, .int .i64 ms] 61 (0, 0))) (hk : ∀ k, F k → k ≠ g → W'.heap[k]? = W.heap[k]?) (hs : W.heap.size ≤ W'.heap.size) : PoolAt W' B g bm v m F { S with hits := hi, miss := ms } :=
  { hg := hg
    hm := h.hm.move (hk bm h.hF.2 (fun z => h.hm.ne h.hg z.symm))
    hl := h.hl
    hn := h.hn
    row := by
      rcases h.row with hr | ⟨rb, cap, h1, h2, h3, h4, h5⟩
      · exact Or.inl hr
      · exact Or.inr ⟨rb, cap, h1, h2.move (hk rb h5 (fun z => h2.ne h.hg (by decide) z.symm)), h3, h4, h5⟩
    hF := h.hF
    hr := fun k hk => ⟨(h.hr k hk).1, by have := (h.hr k hk).2; omega⟩
    len := h.len }
theorem PoolAt.after {W : World} {B g bm : Nat} {v : Value} {m : Ents} {F : Nat → Prop} {S : PoolS} (h : PoolAt W B g bm v m F S) (i : Nat) (u : Value) (hi ms : Int) (o1 o2 : Obj)
    (hset : (#[.int .i64 S.cap, .map (some bm), v, .int .i64 S.hits, .int .i64 S.miss] : Array Value).setIfInBounds i u = #[.int .i64 S.cap, .map (some bm), v, .int .i64 hi, .int .i64 ms]) :
    PoolAt (((W.setCell ⟨g, i, none⟩ u).alloc o1).alloc o2).drew B g bm v m F { S with hits := hi, miss := ms } ∧ Kept W (((W.setCell ⟨g, i, none⟩ u).alloc o1).alloc o2).drew F ∧ Below B W (((W.setCell ⟨g, i, none⟩ u).alloc o1).alloc o2).drew := by
  have hs : (W.setCell ⟨g, i, none⟩ u).heap.size = W.heap.size := by simp [World.setCell]
  have hk : Kept W (((W.setCell ⟨g, i, none⟩ u).alloc o1).alloc o2).drew F := ((((Kept.refl W F).setCell (p := ⟨g, i, none⟩) (Or.inl h.hF.1) u).alloc o1).alloc o2).drew
  have hb : Below B W (((W.setCell ⟨g, i, none⟩ u).alloc o1).alloc o2).drew := (((Below.refl B W).setCell (p := ⟨g, i, none⟩) (h.hr g h.hF.1).1 u).trans ((below_two (W.setCell ⟨g, i, none⟩ u) o1 o2).mono (by have := h.hr g h.hF.1; omega))).drew
  refine ⟨h.cell hi ms (blk_alloc (blk_alloc (blk_put h.hg i u hset) _) _) (fun k hk hne => ?_) hk.1, hk, hb⟩
  have hlt := (h.hr k hk).2
  exact (below_two (W.setCell ⟨g, i, none⟩ u) o1 o2).block k (by omega) |>.trans (Below.heap_setCell _ _ _ _ hne)
theorem PoolPost.after {W W1 W2 : World} {B g : Nat} {F : Nat → Prop} {S : PoolS} (h : PoolPost B g F S W1 W2) (hk : Kept W W1 F) (hb : Below B W W1) : PoolPost B g F S W W2 := by
  obtain ⟨F', h1, h2, h3, h4⟩ := h
  exact ⟨F', h1, fun k z => (h2 k z).imp id (fun y => Nat.le_trans hk.1 y), hk.then_ h3 (fun k z => Or.inl z), hb.trans h4⟩
def missed (S : PoolS) : PoolS := { S with miss := S.miss + 1 }
def hit (S : PoolS) : PoolS := { S with hits := S.hits + 1 }
set_option maxHeartbeats 2000000 in
set_option maxRecDepth 100000 in
theorem get_none (W : World) (B g : Nat) (F : Nat → Prop) (S : PoolS) (a : S40) (hP : PoolIs W B g F S) (hc : look a S.ents = none) (hb : 0 ≤ S.miss ∧ S.miss < 1000000) :
    Calls Try.prog 17 #[.pointer (some ⟨g, 0, none⟩), .int .i64 a.f0, .int .i64 a.f1] W fun e W' => e = .returned (.tuple #[.string ⟨#[]⟩, .int .i64 0, .bool false]) ∧ PoolPost B g F (missed S) W W' := by
  have hFr := hP.range
  obtain ⟨bm, v, m, hP⟩ := hP
  have hg := hP.hg
  have hm := hP.hm
  have hgl := hFr g hP.hF.1
  rw [← hP.hl] at hc
  have hlook : ∀ W', Below W.heap.size W W' → (Instr.lookup 59 (.map (some bm)) (.agg #[.int .i64 a.f0, .int .i64 a.f1]) true).run Try.prog W' = .ok (.tuple #[.agg #[.string ⟨#[]⟩, .int .i64 0], .bool false]) W' := by
    intro W' hb
    have h := (hm.move (hb.block bm hm.lt)).run_look Try.underlying59 zero64 a true
    rw [hc] at h
    exact h
  have HL := Aside0.mk hlook
  have HP := Aside0.mk hP
  have HFR := Aside0.mk hFr
  have HA := Aside0.mk (below_alloc (Below.refl W.heap.size W) (.cells #[.int .i64 a.f0, .int .i64 a.f1] 40))
  have HT := Aside0.mk (blk_new W (.cells #[.int .i64 a.f0, .int .i64 a.f1] 40))
  have HG := Aside0.mk (blk_below hg HA.out)
  have hl0 := HL.out _ (show Below W.heap.size W (W.alloc (.cells #[.int .i64 a.f0, .int .i64 a.f1] 40)).drew from HA.out.drew)
  have cg : W.cell? ⟨g, 1, none⟩ = some (.map (some bm)) := by rw [blk_cell hg]; rfl
  have cg4 : W.cell? ⟨g, 4, none⟩ = some (.int .i64 S.miss) := by rw [blk_cell hg]; rfl
  have fg4 : W.frozen? ⟨g, 4, none⟩ = false := blk_frozen hg 4
  have hu64 := Try.underlying64
  clear hg hm hlook hP hFr
  go_enter Try.func17, Try.ntmps17
  go_wp2_with fail
  refine start_ (n := 12) (S := fun w' => w'.cell? ⟨g, 1, none⟩ = some (.map (some bm)) ∧ w'.cell? ⟨W.heap.size, 0, none⟩ = some (.int .i64 a.f0) ∧ w'.cell? ⟨W.heap.size, 1, none⟩ = some (.int .i64 a.f1) ∧ (Instr.lookup 59 (.map (some bm)) (.agg #[.int .i64 a.f0, .int .i64 a.f1]) true).run Try.prog w' = .ok (.tuple #[.agg #[.string ⟨#[]⟩, .int .i64 0], .bool false]) w') (ds := [10]) #[false, false, false, false, false, false, false, false, false, false, false, false] (by kernel_rfl) rfl rfl ⟨((blk_cell HG.out 1).trans rfl), ((blk_cell HT.out 0).trans rfl), ((blk_cell HT.out 1).trans rfl), hl0⟩ (fun hHeld => ?_)
  refine pure_ (i := 0) (N := some 16) (v := ?_) (a' := ?_) #[true, false, false, false, false, false, false, false, false, false, false, false] rfl rfl (by kernel_rfl) (fun _ _ _ h => h) (Or.inl ⟨by rfl, ?_⟩) ?_ ?_
  rotate_left
  · intro w'
    go_simp
    with_reducible rfl
  rotate_left
  · simp only [Act.put, List.setIfInBounds_toArray, List.set_cons_zero, List.set_cons_succ, i64_w, i32_w]
    rfl
  refine pure_ (i := 1) (N := some 17) (v := ?_) (a' := ?_) #[true, true, false, false, false, false, false, false, false, false, false, false] rfl rfl (by kernel_rfl) (fun _ _ _ h => h) (Or.inl ⟨by rfl, ?_⟩) ?_ ?_
  rotate_left
  · intro w'
    go_simp
    with_reducible rfl
  rotate_left
  · simp only [Act.put, List.setIfInBounds_toArray, List.set_cons_zero, List.set_cons_succ, i64_w, i32_w]
    rfl
  refine pure_ (i := 2) (N := some 18) (v := ?_) (a' := ?_) #[true, true, true, false, false, false, false, false, false, false, false, false] rfl rfl (by kernel_rfl) (fun _ _ _ h => h) (Or.inl ⟨by rfl, ?_⟩) ?_ ?_
  rotate_left
  · intro w'
    go_simp
    with_reducible rfl
  rotate_left
  · simp only [Act.put, List.setIfInBounds_toArray, List.set_cons_zero, List.set_cons_succ, i64_w, i32_w]
    rfl
  refine take_ (i := 3) (N := some 19) (v := ?_) (a' := ?_) #[true, true, true, true, false, false, false, false, false, false, false, false] rfl rfl (by kernel_rfl) (fun _ _ _ h => h) (Or.inl ⟨by rfl, ?_⟩) hHeld ?_ ?_
  rotate_left
  · rintro w' ⟨s0, s1, s2, s3⟩
    go_simp
    with_reducible rfl
  rotate_left
  · simp only [Act.put, List.setIfInBounds_toArray, List.set_cons_zero, List.set_cons_succ, i64_w, i32_w]
    rfl
  refine take_ (i := 4) (N := some 20) (v := ?_) (a' := ?_) #[true, true, true, true, true, false, false, false, false, false, false, false] rfl rfl (by kernel_rfl) (fun _ _ _ h => h) (Or.inl ⟨by rfl, ?_⟩) hHeld ?_ ?_
  rotate_left
  · rintro w' ⟨s0, s1, s2, s3⟩
    go_simp
    with_reducible rfl
  rotate_left
  · simp only [Act.put, List.setIfInBounds_toArray, List.set_cons_zero, List.set_cons_succ, i64_w, i32_w]
    rfl
  refine take_ (i := 5) (N := some 21) (v := ?_) (a' := ?_) #[true, true, true, true, true, true, false, false, false, false, false, false] rfl rfl (by kernel_rfl) (fun _ _ _ h => h) (Or.inl ⟨by rfl, ?_⟩) hHeld ?_ ?_
  rotate_left
  · rintro w' ⟨s0, s1, s2, s3⟩
    go_simp
    with_reducible rfl
  rotate_left
  · simp only [Act.put, List.setIfInBounds_toArray, List.set_cons_zero, List.set_cons_succ, i64_w, i32_w]
    rfl
  refine pure_ (i := 6) (N := some 15) (v := ?_) (a' := ?_) #[true, true, true, true, true, true, true, false, false, false, false, false] rfl rfl (by kernel_rfl) (fun _ _ _ h => h) (Or.inl ⟨by rfl, ?_⟩) ?_ ?_
  rotate_left
  · intro w'
    go_simp
    with_reducible rfl
  rotate_left
  · simp only [Act.put, List.setIfInBounds_toArray, List.set_cons_zero, List.set_cons_succ, i64_w, i32_w]
    rfl
  refine pure_ (i := 7) (N := some 22) (v := ?_) (a' := ?_) #[true, true, true, true, true, true, true, true, false, false, false, false] rfl rfl (by kernel_rfl) (fun _ _ _ h => h) (Or.inl ⟨by rfl, ?_⟩) ?_ ?_
  rotate_left
  · intro w'
    go_simp
    with_reducible rfl
  rotate_left
  · simp only [Act.put, List.setIfInBounds_toArray, List.set_cons_zero, List.set_cons_succ, i64_w, i32_w]
    rfl
  refine pure_ (i := 8) (N := some 23) (v := ?_) (a' := ?_) #[true, true, true, true, true, true, true, true, true, false, false, false] rfl rfl (by kernel_rfl) (fun _ _ _ h => h) (Or.inl ⟨by rfl, ?_⟩) ?_ ?_
  rotate_left
  · intro w'
    go_simp
    with_reducible rfl
  rotate_left
  · simp only [Act.put, List.setIfInBounds_toArray, List.set_cons_zero, List.set_cons_succ, i64_w, i32_w]
    rfl
  refine one_ (i := 9) (N := some 10) #[true, true, true, true, true, true, true, true, true, true, false, false] rfl rfl (by kernel_rfl) (by decide) (fun K hK => ?_)
  refine value_ (w1 := ?_) (v := ?_) (by rfl) rfl ?_ ?_
  rotate_left 2
  · go_simp
    constructor
    · rfl
    · rfl
  refine hK.out _ _ ⟨((blk_cell (blk_alloc HG.out _) 1).trans rfl), ((blk_cell (blk_alloc HT.out _) 0).trans rfl), ((blk_cell (blk_alloc HT.out _) 1).trans rfl), (HL.out _ (below_alloc HA.out _).drew)⟩ (fun hHeld => ?_)
  clear hK K
  refine norm_ (a' := ?_) ?_ ?_
  rotate_left
  · show Act.put _ (some 10) _ = _
    simp only [Act.put, List.setIfInBounds_toArray, List.set_cons_zero, List.set_cons_succ, i64_w, i32_w]
    rfl
  refine last_ (i := 10) (N := none) #[true, true, true, true, true, true, true, true, true, true, true, false] rfl rfl (by kernel_rfl) (by decide) (fun K hK => ?_)
  refine skip_ (w1 := ?_) (by rfl) rfl ?_ ?_
  rotate_left
  · go_simp
    rfl
  refine hK.out _ _ ?_
  clear hK K
  refine pure_ (i := 11) (N := some 11) (v := ?_) (a' := ?_) #[true, true, true, true, true, true, true, true, true, true, true, true] rfl rfl (by kernel_rfl) (fun _ _ _ h => h) (Or.inl ⟨by rfl, ?_⟩) ?_ ?_
  rotate_left
  · intro w'
    go_simp
    with_reducible rfl
  rotate_left
  · simp only [Act.put, List.setIfInBounds_toArray, List.set_cons_zero, List.set_cons_succ, i64_w, i32_w]
    rfl
  refine done_ (by kernel_rfl) ?_
  go_wp2_with fail
  go_ret3
  obtain ⟨h1, h2, h3⟩ := HP.out.after 4 (.int .i64 (S.miss + 1)) S.hits (S.miss + 1) _ _ (by rfl)
  exact ⟨rfl, F, ⟨bm, v, m, h1⟩, fun k hk => Or.inl hk, h2, h3⟩
set_option maxHeartbeats 2000000 in
set_option maxRecDepth 100000 in
theorem get_some (W : World) (B g : Nat) (F : Nat → Prop) (S : PoolS) (a : S40) (hP : PoolIs W B g F S) (c : Cont) (hlen : S.ents.length < 1000000) (hc : look a S.ents = some c) (hb : 0 ≤ S.hits ∧ S.hits < 1000000) :
    Calls Try.prog 17 #[.pointer (some ⟨g, 0, none⟩), .int .i64 a.f0, .int .i64 a.f1] W fun e W' => e = .returned (.tuple #[.string c.data, .int .i64 c.ver, .bool true]) ∧ PoolPost B g F (used a c (hit S)) W W' := by
  have hFr := hP.range
  obtain ⟨bm, v, m, hP⟩ := hP
  have hg := hP.hg
  have hm := hP.hm
  have hgl := hFr g hP.hF.1
  rw [← hP.hl] at hc
  have hlook : ∀ W', Below W.heap.size W W' → (Instr.lookup 59 (.map (some bm)) (.agg #[.int .i64 a.f0, .int .i64 a.f1]) true).run Try.prog W' = .ok (.tuple #[.agg #[.string c.data, .int .i64 c.ver], .bool true]) W' := by
    intro W' hb
    have h := (hm.move (hb.block bm hm.lt)).run_look Try.underlying59 zero64 a true
    rw [hc] at h
    exact h
  have HL := Aside0.mk hlook
  have HP := Aside0.mk hP
  have HFR := Aside0.mk hFr
  have HA := Aside0.mk (below_alloc (Below.refl W.heap.size W) (.cells #[.int .i64 a.f0, .int .i64 a.f1] 40))
  have HT := Aside0.mk (blk_new W (.cells #[.int .i64 a.f0, .int .i64 a.f1] 40))
  have HG := Aside0.mk (blk_below hg HA.out)
  have hl0 := HL.out _ (show Below W.heap.size W (W.alloc (.cells #[.int .i64 a.f0, .int .i64 a.f1] 40)).drew from HA.out.drew)
  have cg : W.cell? ⟨g, 1, none⟩ = some (.map (some bm)) := by rw [blk_cell hg]; rfl
  have cg3 : W.cell? ⟨g, 3, none⟩ = some (.int .i64 S.hits) := by rw [blk_cell hg]; rfl
  have fg3 : W.frozen? ⟨g, 3, none⟩ = false := blk_frozen hg 3
  have hu64 := Try.underlying64
  clear hg hm hlook hP hFr
  go_enter Try.func17, Try.ntmps17
  go_wp2_with fail
  refine start_ (n := 12) (S := fun w' => w'.cell? ⟨g, 1, none⟩ = some (.map (some bm)) ∧ w'.cell? ⟨W.heap.size, 0, none⟩ = some (.int .i64 a.f0) ∧ w'.cell? ⟨W.heap.size, 1, none⟩ = some (.int .i64 a.f1) ∧ (Instr.lookup 59 (.map (some bm)) (.agg #[.int .i64 a.f0, .int .i64 a.f1]) true).run Try.prog w' = .ok (.tuple #[.agg #[.string c.data, .int .i64 c.ver], .bool true]) w') (ds := [10]) #[false, false, false, false, false, false, false, false, false, false, false, false] (by kernel_rfl) rfl rfl ⟨((blk_cell HG.out 1).trans rfl), ((blk_cell HT.out 0).trans rfl), ((blk_cell HT.out 1).trans rfl), hl0⟩ (fun hHeld => ?_)
  refine pure_ (i := 0) (N := some 16) (v := ?_) (a' := ?_) #[true, false, false, false, false, false, false, false, false, false, false, false] rfl rfl (by kernel_rfl) (fun _ _ _ h => h) (Or.inl ⟨by rfl, ?_⟩) ?_ ?_
  rotate_left
  · intro w'
    go_simp
    with_reducible rfl
  rotate_left
  · simp only [Act.put, List.setIfInBounds_toArray, List.set_cons_zero, List.set_cons_succ, i64_w, i32_w]
    rfl
  refine pure_ (i := 1) (N := some 17) (v := ?_) (a' := ?_) #[true, true, false, false, false, false, false, false, false, false, false, false] rfl rfl (by kernel_rfl) (fun _ _ _ h => h) (Or.inl ⟨by rfl, ?_⟩) ?_ ?_
  rotate_left
  · intro w'
    go_simp
    with_reducible rfl
  rotate_left
  · simp only [Act.put, List.setIfInBounds_toArray, List.set_cons_zero, List.set_cons_succ, i64_w, i32_w]
    rfl
  refine pure_ (i := 2) (N := some 18) (v := ?_) (a' := ?_) #[true, true, true, false, false, false, false, false, false, false, false, false] rfl rfl (by kernel_rfl) (fun _ _ _ h => h) (Or.inl ⟨by rfl, ?_⟩) ?_ ?_
  rotate_left
  · intro w'
    go_simp
    with_reducible rfl
  rotate_left
  · simp only [Act.put, List.setIfInBounds_toArray, List.set_cons_zero, List.set_cons_succ, i64_w, i32_w]
    rfl
  refine take_ (i := 3) (N := some 19) (v := ?_) (a' := ?_) #[true, true, true, true, false, false, false, false, false, false, false, false] rfl rfl (by kernel_rfl) (fun _ _ _ h => h) (Or.inl ⟨by rfl, ?_⟩) hHeld ?_ ?_
  rotate_left
  · rintro w' ⟨s0, s1, s2, s3⟩
    go_simp
    with_reducible rfl
  rotate_left
  · simp only [Act.put, List.setIfInBounds_toArray, List.set_cons_zero, List.set_cons_succ, i64_w, i32_w]
    rfl
  refine take_ (i := 4) (N := some 20) (v := ?_) (a' := ?_) #[true, true, true, true, true, false, false, false, false, false, false, false] rfl rfl (by kernel_rfl) (fun _ _ _ h => h) (Or.inl ⟨by rfl, ?_⟩) hHeld ?_ ?_
  rotate_left
  · rintro w' ⟨s0, s1, s2, s3⟩
    go_simp
    with_reducible rfl
  rotate_left
  · simp only [Act.put, List.setIfInBounds_toArray, List.set_cons_zero, List.set_cons_succ, i64_w, i32_w]
    rfl
  refine take_ (i := 5) (N := some 21) (v := ?_) (a' := ?_) #[true, true, true, true, true, true, false, false, false, false, false, false] rfl rfl (by kernel_rfl) (fun _ _ _ h => h) (Or.inl ⟨by rfl, ?_⟩) hHeld ?_ ?_
  rotate_left
  · rintro w' ⟨s0, s1, s2, s3⟩
    go_simp
    with_reducible rfl
  rotate_left
  · simp only [Act.put, List.setIfInBounds_toArray, List.set_cons_zero, List.set_cons_succ, i64_w, i32_w]
    rfl
  refine pure_ (i := 6) (N := some 15) (v := ?_) (a' := ?_) #[true, true, true, true, true, true, true, false, false, false, false, false] rfl rfl (by kernel_rfl) (fun _ _ _ h => h) (Or.inl ⟨by rfl, ?_⟩) ?_ ?_
  rotate_left
  · intro w'
    go_simp
    with_reducible rfl
  rotate_left
  · simp only [Act.put, List.setIfInBounds_toArray, List.set_cons_zero, List.set_cons_succ, i64_w, i32_w]
    rfl
  refine pure_ (i := 7) (N := some 22) (v := ?_) (a' := ?_) #[true, true, true, true, true, true, true, true, false, false, false, false] rfl rfl (by kernel_rfl) (fun _ _ _ h => h) (Or.inl ⟨by rfl, ?_⟩) ?_ ?_
  rotate_left
  · intro w'
    go_simp
    with_reducible rfl
  rotate_left
  · simp only [Act.put, List.setIfInBounds_toArray, List.set_cons_zero, List.set_cons_succ, i64_w, i32_w]
    rfl
  refine pure_ (i := 8) (N := some 23) (v := ?_) (a' := ?_) #[true, true, true, true, true, true, true, true, true, false, false, false] rfl rfl (by kernel_rfl) (fun _ _ _ h => h) (Or.inl ⟨by rfl, ?_⟩) ?_ ?_
  rotate_left
  · intro w'
    go_simp
    with_reducible rfl
  rotate_left
  · simp only [Act.put, List.setIfInBounds_toArray, List.set_cons_zero, List.set_cons_succ, i64_w, i32_w]
    rfl
  refine one_ (i := 9) (N := some 10) #[true, true, true, true, true, true, true, true, true, true, false, false] rfl rfl (by kernel_rfl) (by decide) (fun K hK => ?_)
  refine value_ (w1 := ?_) (v := ?_) (by rfl) rfl ?_ ?_
  rotate_left 2
  · go_simp
    constructor
    · rfl
    · rfl
  refine hK.out _ _ ⟨((blk_cell (blk_alloc HG.out _) 1).trans rfl), ((blk_cell (blk_alloc HT.out _) 0).trans rfl), ((blk_cell (blk_alloc HT.out _) 1).trans rfl), (HL.out _ (below_alloc HA.out _).drew)⟩ (fun hHeld => ?_)
  clear hK K
  refine norm_ (a' := ?_) ?_ ?_
  rotate_left
  · show Act.put _ (some 10) _ = _
    simp only [Act.put, List.setIfInBounds_toArray, List.set_cons_zero, List.set_cons_succ, i64_w, i32_w]
    rfl
  refine last_ (i := 10) (N := none) #[true, true, true, true, true, true, true, true, true, true, true, false] rfl rfl (by kernel_rfl) (by decide) (fun K hK => ?_)
  refine skip_ (w1 := ?_) (by rfl) rfl ?_ ?_
  rotate_left
  · go_simp
    rfl
  refine hK.out _ _ ?_
  clear hK K
  refine pure_ (i := 11) (N := some 11) (v := ?_) (a' := ?_) #[true, true, true, true, true, true, true, true, true, true, true, true] rfl rfl (by kernel_rfl) (fun _ _ _ h => h) (Or.inl ⟨by rfl, ?_⟩) ?_ ?_
  rotate_left
  · intro w'
    go_simp
    with_reducible rfl
  rotate_left
  · simp only [Act.put, List.setIfInBounds_toArray, List.set_cons_zero, List.set_cons_succ, i64_w, i32_w]
    rfl
  refine done_ (by kernel_rfl) ?_
  obtain ⟨h1, h2, h3⟩ := HP.out.after 3 (.int .i64 (S.hits + 1)) (S.hits + 1) S.miss (.cells #[.int .i64 a.f0, .int .i64 a.f1] 40) (.cells #[.string c.data, .int .i64 c.ver] 64) (by rfl)
  have huse := use_calls _ B g F (hit S) a c ⟨bm, v, m, h1⟩ hlen
  have hcb : ((((W.setCell ⟨g, 3, none⟩ (.int .i64 (S.hits + 1))).alloc (.cells #[.int .i64 a.f0, .int .i64 a.f1] 40)).alloc (.cells #[.string c.data, .int .i64 c.ver] 64)).drew).heap[W.heap.size + 1]? = some (.cells #[.string c.data, .int .i64 c.ver] 64 (0, 0)) := by
    have := blk_new ((W.setCell ⟨g, 3, none⟩ (.int .i64 (S.hits + 1))).alloc (.cells #[.int .i64 a.f0, .int .i64 a.f1] 40)) (.cells #[.string c.data, .int .i64 c.ver] 64)
    show (((W.setCell ⟨g, 3, none⟩ (.int .i64 (S.hits + 1))).alloc (.cells #[.int .i64 a.f0, .int .i64 a.f1] 40)).alloc (.cells #[.string c.data, .int .i64 c.ver] 64)).heap[W.heap.size + 1]? = _
    simpa using this
  have HCB := Aside0.mk hcb
  have HUSE := Aside0.mk huse
  have H2 := Aside0.mk h2
  have H3 := Aside0.mk h3
  clear h1 h2 h3 huse hcb hl0
  go_wp2_with fail
  clear cg cg3 fg3
  refine HUSE.out.mono ?_
  rintro e W3 ⟨rfl, hp⟩
  have hcb3 := blk_kept HCB.out hp.choose_spec.2.2.1 (fun z => by have := (HFR.out _ z).2; omega)
  have HP3 := Aside0.mk hp
  have cc0 : W3.cell? ⟨W.heap.size + 1, 0, none⟩ = some (.string c.data) := by rw [blk_cell hcb3]; rfl
  have cc1 : W3.cell? ⟨W.heap.size + 1, 1, none⟩ = some (.int .i64 c.ver) := by rw [blk_cell hcb3]; rfl
  clear hp HUSE HL hcb3
  go_wp2_with fail
  go_quiet (fail)
  go_wp2_with fail
  go_ret3
  have h := HP3.out.after H2.out H3.out
  exact ⟨rfl, h.choose, h.choose_spec.1.below (below_drewN (Below.refl _ _) _), h.choose_spec.2.1, h.choose_spec.2.2.1.drewN _, below_drewN h.choose_spec.2.2.2 _⟩
end Go.Proofs.Ytlfmlmnpbcidnaa.PG
