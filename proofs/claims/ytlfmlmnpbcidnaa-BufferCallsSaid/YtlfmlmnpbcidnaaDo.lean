/- What one call does, and that the pool stays small. -/
import Derived.Test.YtlfmlmnpbcidnaaPut
import Derived.BigQuiet
namespace Go.Proofs.Ytlfmlmnpbcidnaa.PG
open Go.RowKit Go.Proofs.YtlfmlmnpbcidnaaW.PrintWords Go.Proofs.YtlfmlmnpbcidnaaW.PrintLast Go.Proofs.YtlfmlmnpbcidnaaW.PrintMore
set_option linter.unusedVariables false
set_option linter.unusedSimpArgs false
/-! ### what a call does, and that the pool stays small -/
def getR (a : S40) (S : PoolS) : Cont × Bool := match look a S.ents with | some c => (c, true) | none => (⟨⟨#[]⟩, 0⟩, false)
def getS (a : S40) (S : PoolS) : PoolS := match look a S.ents with | some c => used a c (hit S) | none => missed S
structure Fine (k : Nat) (S : PoolS) : Prop where
  c0 : 1 ≤ S.cap
  c1 : S.cap ≤ 8
  len : (S.ents.length : Int) ≤ S.cap
  h0 : 0 ≤ S.hits ∧ S.hits ≤ k
  m0 : 0 ≤ S.miss ∧ S.miss ≤ k
  nd : (keys S.ents).Nodup
theorem Fine.mono {k k' : Nat} {S : PoolS} (h : Fine k S) (hk : k ≤ k') : Fine k' S := { h with h0 := ⟨h.h0.1, by have := h.h0.2; omega⟩, m0 := ⟨h.m0.1, by have := h.m0.2; omega⟩ }
theorem Fine.small {k : Nat} {S : PoolS} (h : Fine k S) : S.ents.length ≤ 8 := by have := h.len; have := h.c1; omega
theorem keep_lt (a : S40) : ∀ es : Ents, a ∈ keys es → (keepEnts (isAt a) es).length < es.length := by
  intro es h
  obtain ⟨e, he, rfl⟩ := List.mem_map.1 h
  rcases Nat.lt_or_ge (keepEnts (isAt e.1) es).length es.length with h | h
  · exact h
  · have h2 : es.length ≤ (es.filter fun x => !isAt e.1 x.1 x.2).length := h
    have h3 := List.length_filter_le (fun x : S40 × Cont => !isAt e.1 x.1 x.2) es
    have := List.length_filter_eq_length_iff.1 (Nat.le_antisymm h3 h2) e he
    simp [isAt] at this
theorem look_in {a : S40} {c : Cont} : ∀ {es : Ents}, look a es = some c → a ∈ keys es := by
  intro es h
  exact Classical.byContradiction fun z => by rw [look_none a es z] at h; cases h
theorem Fine.forgot {k : Nat} {S : PoolS} (h : Fine k S) (p : S40 → Cont → Bool) : Fine k (forgot p S) :=
  { h with
    len := by have h1 := h.len; have : (keepEnts p S.ents).length ≤ S.ents.length := List.length_filter_le _ _; show ((keepEnts p S.ents).length : Int) ≤ S.cap; omega
    nd := nodup_keep p _ h.nd }
theorem Fine.put {k : Nat} {S : PoolS} (h : Fine k S) (a : S40) (c : Cont) : Fine k (putS a c S) := by
  have h1 := h.len
  have h3 := h.c0
  have h2 : (keepEnts (isAt a) S.ents).length ≤ S.ents.length := List.length_filter_le _ _
  have hu : (usedEnts a c S.ents).length = (keepEnts (isAt a) S.ents).length + 1 := by simp [usedEnts]
  have hn := nodup_used a c S.ents (nodup_keep _ _ h.nd)
  refine { h with len := ?_, nd := ?_ }
  · show ((if S.cap < ((usedEnts a c S.ents).length : Int) then (usedEnts a c S.ents).tail else usedEnts a c S.ents).length : Int) ≤ S.cap
    split
    · rw [List.length_tail]; omega
    · omega
  · show (keys (if S.cap < ((usedEnts a c S.ents).length : Int) then (usedEnts a c S.ents).tail else usedEnts a c S.ents)).Nodup
    split
    · exact List.Sublist.nodup ((List.tail_sublist _).map _) hn
    · exact hn
theorem Fine.get {k : Nat} {S : PoolS} (h : Fine k S) (a : S40) : Fine (k + 1) (getS a S) := by
  unfold getS
  have hh := h.h0
  have hm := h.m0
  cases hc : look a S.ents with
  | none => exact { h with h0 := ⟨hh.1, by show S.hits ≤ _; omega⟩, m0 := ⟨by show 0 ≤ S.miss + 1; omega, by show S.miss + 1 ≤ _; omega⟩ }
  | some c =>
    have h1 := keep_lt a S.ents (look_in hc)
    have hu : (usedEnts a c S.ents).length = (keepEnts (isAt a) S.ents).length + 1 := by simp [usedEnts]
    have h2 := h.len
    exact { h with
      h0 := ⟨by show 0 ≤ S.hits + 1; omega, by show S.hits + 1 ≤ _; omega⟩
      m0 := ⟨hm.1, by show S.miss ≤ _; omega⟩
      len := by show ((usedEnts a c S.ents).length : Int) ≤ S.cap; omega
      nd := nodup_used a c S.ents (nodup_keep _ _ h.nd) }
theorem get_calls (W : World) (B g k : Nat) (F : Nat → Prop) (S : PoolS) (a : S40) (hP : PoolIs W B g F S) (hf : Fine k S) (hk : k < 1000) :
    Calls Try.prog 17 #[.pointer (some ⟨g, 0, none⟩), .int .i64 a.f0, .int .i64 a.f1] W fun e W' => e = .returned (.tuple #[.string (getR a S).1.data, .int .i64 (getR a S).1.ver, .bool (getR a S).2]) ∧ PoolPost B g F (getS a S) W W' := by
  unfold getR getS
  have h1 := hf.h0
  have h2 := hf.m0
  have h3 := hf.small
  cases hc : look a S.ents with
  | none => exact get_none W B g F S a hP hc ⟨by omega, by omega⟩
  | some c => exact get_some W B g F S a hP c (by omega) hc ⟨by omega, by omega⟩
def place (o : S38) : S40 := ⟨o.f1, o.f2⟩
def doS (o : S38) (S : PoolS) : PoolS := if o.f0 = 0 then getS (place o) S else if o.f0 = 1 then putS (place o) ⟨o.f4, o.f3⟩ S else if o.f0 = 2 then forgot (older (place o) o.f3) S else if o.f0 = 3 then forgot (hasId o.f1) S else S
theorem Fine.do {k : Nat} {S : PoolS} (h : Fine k S) (o : S38) : Fine (k + 1) (doS o S) := by
  unfold doS
  split
  · exact h.get _
  · split
    · exact (h.put _ _).mono (Nat.le_succ _)
    · split
      · exact (h.forgot _).mono (Nat.le_succ _)
      · split
        · exact (h.forgot _).mono (Nat.le_succ _)
        · exact h.mono (Nat.le_succ _)
def encO (o : S38) : Value := .agg #[.int .i64 o.f0, .int .i64 o.f1, .int .i64 o.f2, .int .i64 o.f3, .string o.f4]
theorem PoolPost.same {W : World} {B g : Nat} {F : Nat → Prop} {S : PoolS} (h : PoolIs W B g F S) : PoolPost B g F S W W := ⟨F, h, fun k z => Or.inl z, Kept.refl _ _, Below.refl _ _⟩
set_option maxHeartbeats 2000000 in
set_option maxRecDepth 100000 in
theorem do_calls (W : World) (B g k : Nat) (F : Nat → Prop) (S : PoolS) (o : S38) (hP : PoolIs W B g F S) (hf : Fine k S) (hk : k < 1000) :
    Calls Try.prog 18 #[.pointer (some ⟨g, 0, none⟩), encO o] W fun e W' => e = .returned (.tuple #[]) ∧ PoolPost B g F (doS o S) W W' := by
  have hB : B ≤ W.heap.size := by
    have := hP.range
    obtain ⟨bm, v, m, h⟩ := hP
    have := this g h.hF.1
    omega
  obtain ⟨W1, hW1⟩ : ∃ W1, W1 = W.alloc (.cells #[.int .i64 o.f0, .int .i64 o.f1, .int .i64 o.f2, .int .i64 o.f3, .string o.f4] 38) := ⟨_, rfl⟩
  have hb1 : Below W.heap.size W W1 := by rw [hW1]; exact below_alloc (Below.refl _ _) _
  have hP1 := hP.below hb1
  have hx : W1.heap[W.heap.size]? = some (.cells #[.int .i64 o.f0, .int .i64 o.f1, .int .i64 o.f2, .int .i64 o.f3, .string o.f4] 38 (0, 0)) := by rw [hW1]; exact blk_new _ _
  have x0 : W1.cell? ⟨W.heap.size, 0, none⟩ = some (.int .i64 o.f0) := by rw [blk_cell hx]; rfl
  have x1 : W1.cell? ⟨W.heap.size, 1, none⟩ = some (.int .i64 o.f1) := by rw [blk_cell hx]; rfl
  have x2 : W1.cell? ⟨W.heap.size, 2, none⟩ = some (.int .i64 o.f2) := by rw [blk_cell hx]; rfl
  have x3 : W1.cell? ⟨W.heap.size, 3, none⟩ = some (.int .i64 o.f3) := by rw [blk_cell hx]; rfl
  have x4 : W1.cell? ⟨W.heap.size, 4, none⟩ = some (.string o.f4) := by rw [blk_cell hx]; rfl
  have fin : ∀ {W2 S2}, PoolPost B g F S2 W1 W2 → PoolPost B g F S2 W W2 := fun h => h.after (Kept.of_below hb1 F) (hb1.mono hB)
  have H1 := Aside0.mk hP1
  have HFIN := Aside0.mk @fin
  have HF := Aside0.mk hf
  have hs3 := hf.small
  clear hP hP1 hx fin hf hb1
  unfold encO
  by_cases c0 : o.f0 = 0
  · have d0 : (o.f0 == 0) = true := by rw [c0]; rfl
    have HG := Aside0.mk (get_calls W1 B g k F S (place o) H1.out HF.out hk)
    have HD := Aside0.mk (show doS o S = getS (place o) S by unfold doS; rw [if_pos c0])
    clear c0
    go_enter Try.func18, Try.ntmps18
    go_wp2_with (rw [← hW1])
    refine HG.out.mono ?_
    rintro e W2 ⟨rfl, hp⟩
    have HP := Aside0.mk hp
    clear hp
    go_wp2_with fail
    go_end0
    rw [HD.out]
    exact ⟨rfl, HFIN.out HP.out⟩
  · have d0 : (o.f0 == 0) = false := beq_eq_false_iff_ne.2 c0
    by_cases c1 : o.f0 = 1
    · have d1 : (o.f0 == 1) = true := by rw [c1]; rfl
      have HG := Aside0.mk (put_calls W1 B g F S (place o) ⟨o.f4, o.f3⟩ H1.out (by omega))
      have HD := Aside0.mk (show doS o S = putS (place o) ⟨o.f4, o.f3⟩ S by unfold doS; rw [if_neg c0, if_pos c1])
      clear c0 c1
      go_enter Try.func18, Try.ntmps18
      go_wp2_with (rw [← hW1])
      refine HG.out.mono ?_
      rintro e W2 ⟨rfl, hp⟩
      have HP := Aside0.mk hp
      clear hp
      go_wp2_with fail
      go_end0
      rw [HD.out]
      exact ⟨rfl, HFIN.out HP.out⟩
    · have d1 : (o.f0 == 1) = false := beq_eq_false_iff_ne.2 c1
      by_cases c2 : o.f0 = 2
      · have d2 : (o.f0 == 2) = true := by rw [c2]; rfl
        have HG := Aside0.mk (inv_calls W1 B g F S (place o) o.f3 H1.out)
        have HD := Aside0.mk (show doS o S = forgot (older (place o) o.f3) S by unfold doS; rw [if_neg c0, if_neg c1, if_pos c2])
        clear c0 c1 c2
        go_enter Try.func18, Try.ntmps18
        go_wp2_with (rw [← hW1])
        refine HG.out.mono ?_
        rintro e W2 ⟨rfl, hp⟩
        have HP := Aside0.mk hp
        clear hp
        go_wp2_with fail
        go_end0
        rw [HD.out]
        exact ⟨rfl, HFIN.out HP.out⟩
      · have d2 : (o.f0 == 2) = false := beq_eq_false_iff_ne.2 c2
        by_cases c3 : o.f0 = 3
        · have d3 : (o.f0 == 3) = true := by rw [c3]; rfl
          have HG := Aside0.mk (drop_calls W1 B g F S o.f1 H1.out)
          have HD := Aside0.mk (show doS o S = forgot (hasId o.f1) S by unfold doS; rw [if_neg c0, if_neg c1, if_neg c2, if_pos c3])
          clear c0 c1 c2 c3
          go_enter Try.func18, Try.ntmps18
          go_wp2_with (rw [← hW1])
          refine HG.out.mono ?_
          rintro e W2 ⟨rfl, hp⟩
          have HP := Aside0.mk hp
          clear hp
          go_wp2_with fail
          go_end0
          rw [HD.out]
          exact ⟨rfl, HFIN.out HP.out⟩
        · have d3 : (o.f0 == 3) = false := beq_eq_false_iff_ne.2 c3
          have HD := Aside0.mk (show doS o S = S by unfold doS; rw [if_neg c0, if_neg c1, if_neg c2, if_neg c3])
          clear c0 c1 c2 c3
          go_enter Try.func18, Try.ntmps18
          go_wp2_with fail
          go_end0
          rw [HD.out, ← hW1]
          exact ⟨rfl, HFIN.out (PoolPost.same H1.out)⟩
end Go.Proofs.Ytlfmlmnpbcidnaa.PG
