/- Places and Put. -/
import Derived.Test.YtlfmlmnpbcidnaaGet
import Derived.BigQuiet
namespace Go.Proofs.Ytlfmlmnpbcidnaa.PG
open Go.RowKit Go.Proofs.YtlfmlmnpbcidnaaW.PrintWords Go.Proofs.YtlfmlmnpbcidnaaW.PrintLast Go.Proofs.YtlfmlmnpbcidnaaW.PrintMore
set_option linter.unusedVariables false
set_option linter.unusedSimpArgs false
/-! ### Places -/
theorem nil28 (w : World) : (binOp .eql 28 (.slice none 0 0) (.slice none 0 0)).run Try.prog w = .ok (.bool true) w := by kernel_rfl
theorem some28 (w : World) (ad : Addr) (n c : Nat) : (binOp .eql 28 (.slice (some ad) n c) (.slice none 0 0)).run Try.prog w = .ok (.bool false) w := by kernel_rfl
theorem clone_nil (W : World) : Calls Try.prog 24 #[.slice none 0 0] W fun e W' => e = .returned (.slice none 0 0) ∧ W' = W := by
  have hn := nil28
  have hs := some28
  go_enter Try.func24, Try.ntmps24
  go_wp2_with fail
  go_ret
  exact ⟨rfl, rfl⟩
set_option maxHeartbeats 1000000 in
set_option maxRecDepth 100000 in
theorem clone_row (W : World) (ad : Addr) (n c : Nat) (xs : List S40) (hC : Kd.C k40 W (some ad) n xs) (hl : n ≤ 1000000) :
    Calls Try.prog 24 #[.slice (some ad) n c] W fun e W' => ∃ v, e = .returned v ∧ Kd.R k40 40 W' W.heap.size (fun k => W.heap.size ≤ k) v xs ∧ Below W.heap.size W W' := by
  have hs := some28
  have hO : Kd.R k40 40 (W.alloc (.cells #[] 40)) W.heap.size (fun k => W.heap.size ≤ k) (.slice (some ⟨W.heap.size, 0, none⟩) 0 0) [] :=
    RowAt.toR (xs := []) ⟨#[], blk_new _ _, rfl, Nat.le_refl _, fun j h => by cases h⟩ (Nat.le_refl _) (Nat.zero_le _) (Nat.le_refl _)
  have HO := Aside0.mk hO
  have HC := Aside0.mk hC
  clear hO hC
  go_enter Try.func24, Try.ntmps24
  go_wp2_with (at_builtin; refine Kd.R_append_rows k40 (w0 := W) W.heap.size rfl (.tmp 5) (.tmp 6) 28 40 (.agg #[.int .i64 0, .int .i64 0]) 16 rfl Try.underlying28 info40 rfl (by decide) (by omega) _ [] xs (some ad) n c (fun k => W.heap.size ≤ k) (fun _ => False) rfl rfl HO.out (Kd.C_alloc HC.out _) (fun _ _ h => h) (fun _ h => h.elim) (fun k hk => by simp at hk; omega) (below_alloc (Below.refl _ _) _) (by simp) (by simp; omega) ?_; intro v1 w1 hR hb hg hat)
  go_ret
  exact ⟨v1, rfl, hR, hb⟩
set_option maxRecDepth 100000 in
theorem places_calls (W : World) (B g : Nat) (F : Nat → Prop) (S : PoolS) (hP : PoolIs W B g F S) :
    Calls Try.prog 13 #[.pointer (some ⟨g, 0, none⟩)] W fun e W' => ∃ v, e = .returned v ∧ Kd.R k40 40 W' W.heap.size (fun k => W.heap.size ≤ k) v (keys S.ents) ∧ Below W.heap.size W W' := by
  obtain ⟨bm, v, m, hP⟩ := hP
  have hlen := hP.len
  rcases hP.row with ⟨hv, he⟩ | ⟨rb, cap, hv, hrow, hBr, hcm, hFr⟩
  · subst hv
    have cg : W.cell? ⟨g, 2, none⟩ = some (.slice none 0 0) := by rw [blk_cell hP.hg]; rfl
    rw [he]
    clear hP
    go_enter Try.func13, Try.ntmps13
    go_wp2_with fail
    refine (clone_nil W).mono ?_
    rintro e W2 ⟨rfl, rfl⟩
    go_wp2_with fail
    go_ret
    exact ⟨_, rfl, Kd.R_nil _ _ _ _ _, Below.refl _ _⟩
  · subst hv
    have cg : W.cell? ⟨g, 2, none⟩ = some (.slice (some ⟨rb, 0, none⟩) (keys S.ents).length cap) := by rw [blk_cell hP.hg]; rfl
    obtain ⟨A, c, h1, h2, h3⟩ := Kd.R_reads (hP.R F (fun _ h => h))
    injection h1 with e1 e2 e3
    subst e1
    subst e3
    have hcall := clone_row W ⟨rb, 0, none⟩ _ cap (keys S.ents) h3 (by rw [keys_length]; exact hlen)
    rw [keys_length] at hcall cg
    have HCALL := Aside0.mk hcall
    clear hP hrow hcall h3
    go_enter Try.func13, Try.ntmps13
    go_wp2_with fail
    refine HCALL.out.mono ?_
    rintro e W2 ⟨v2, rfl, hR, hb⟩
    have HR := Aside0.mk hR
    have HB := Aside0.mk hb
    clear hR hb HCALL
    go_wp2_with fail
    go_ret
    exact ⟨_, rfl, HR.out, HB.out⟩
/-! ### Put -/
def putS (a : S40) (c : Cont) (S : PoolS) : PoolS := { S with ents := if S.cap < ((usedEnts a c S.ents).length : Int) then (usedEnts a c S.ents).tail else usedEnts a c S.ents }
theorem keep_head (e : S40 × Cont) (es : Ents) (hn : (keys (e :: es)).Nodup) : keepEnts (isAt e.1) (e :: es) = es := by
  obtain ⟨h1, h2⟩ := List.nodup_cons.1 (show (e.1 :: keys es).Nodup from hn)
  show (e :: es).filter _ = es
  rw [List.filter_cons, if_neg (by simp [isAt])]
  refine List.filter_eq_self.2 (fun x hx => ?_)
  have : x.1 ∈ keys es := List.mem_map.2 ⟨x, hx, rfl⟩
  simp only [isAt, Bool.not_eq_true', decide_eq_false_iff_not]
  exact fun z => h1 (by rw [← z]; exact this)
set_option maxHeartbeats 2000000 in
set_option maxRecDepth 100000 in
theorem put_calls (W : World) (B g : Nat) (F : Nat → Prop) (S : PoolS) (a : S40) (c : Cont) (hP : PoolIs W B g F S) (hl : S.ents.length < 1000000) :
    Calls Try.prog 23 #[.pointer (some ⟨g, 0, none⟩), .int .i64 a.f0, .int .i64 a.f1, .string c.data, .int .i64 c.ver] W fun e W' => e = .returned (.tuple #[]) ∧ PoolPost B g F (putS a c S) W W' := by
  have hB : B ≤ W.heap.size := by
    have := hP.range
    obtain ⟨bm, v, m, h⟩ := hP
    have := this g h.hF.1
    omega
  have huse := use_calls W B g F S a c hP hl
  unfold encP encC at huse
  have HUSE := Aside0.mk huse
  clear huse
  go_enter Try.func23, Try.ntmps23
  go_wp2_with fail
  refine HUSE.out.mono ?_
  rintro e W1 ⟨rfl, F1, ⟨bm1, v1, m1, h1⟩, hf1, hk1, hb1⟩
  have HP1 := Aside0.mk h1
  have HF1 := Aside0.mk hf1
  have HK1 := Aside0.mk hk1
  have HB1 := Aside0.mk hb1
  have hne : (used a c S).ents ≠ [] := by show usedEnts a c S.ents ≠ []; unfold usedEnts; simp
  obtain ⟨rb, cap, hv, hrow, hBr, hcm, hFr⟩ := h1.row.resolve_left (fun z => hne z.2)
  subst hv
  have hkl := keys_length (usedEnts a c S.ents)
  have cg2 : W1.cell? ⟨g, 2, none⟩ = some (.slice (some ⟨rb, 0, none⟩) (usedEnts a c S.ents).length cap) := by rw [← hkl, blk_cell h1.hg]; rfl
  have cg0 : W1.cell? ⟨g, 0, none⟩ = some (.int .i64 S.cap) := by rw [blk_cell h1.hg]; rfl
  clear h1 hf1 hk1 hb1 HUSE
  by_cases hc : S.cap < ((usedEnts a c S.ents).length : Int)
  · have hd : decide (S.cap < ((usedEnts a c S.ents).length : Int)) = true := decide_eq_true hc
    cases he : usedEnts a c S.ents with
    | nil => exact absurd he hne
    | cons x es =>
      have hr := hrow.cells 0 (by show 0 < (keys (usedEnts a c S.ents)).length; rw [he]; exact Nat.succ_pos _)
      have hx0 : (keys (used a c S).ents)[0]'(by show 0 < (keys (usedEnts a c S.ents)).length; rw [he]; exact Nat.succ_pos _) = x.1 := by
        have : keys (used a c S).ents = x.1 :: keys es := by show keys (usedEnts a c S.ents) = _; rw [he]; rfl
        simp [this]
      rw [hx0] at hr
      obtain ⟨cr0, cr1⟩ := hr
      rw [Nat.zero_mul] at cr0 cr1
      have hnd : keepEnts (isAt x.1) (used a c S).ents = es := by
        have := HP1.out.hn
        have e : (used a c S).ents = x :: es := he
        rw [e] at this ⊢
        exact keep_head x es this
      have hput : forgot (isAt x.1) (used a c S) = putS a c S := by
        unfold forgot putS
        rw [hnd, if_pos hc, he]
        rfl
      have hlen0 : 0 < (usedEnts a c S.ents).length := by rw [he]; exact Nat.succ_pos _
      have hlr : rb < W1.heap.size := hrow.lt
      have HPUT := Aside0.mk hput
      have HCALL := Aside0.mk (fun (Wq : World) (hq : Below W1.heap.size W1 Wq) => forget_calls (Wq.alloc (.cells #[.int .i64 x.1.f0, .int .i64 x.1.f1] 40)) B g bm1 _ m1 F1 (used a c S) 33 #[.pointer (some ⟨Wq.heap.size, 0, none⟩)] (isAt x.1) eg33 ((HP1.out.below hq).below (below_alloc (Below.refl _ _) _)) (which33 ((HP1.out.below hq).below (below_alloc (Below.refl _ _) _)) _ x.1 (blk_new _ _) (fun z => by have := (HP1.out.hr _ z).2; have := hq.size; omega)))
      clear hnd hput hrow hne hc hx0 hkl he
      go_wp2_with fail
      go_quiet (fail)
      obtain ⟨Wq, hWq⟩ : ∃ Wq, Wq = W1.drewN nq := ⟨_, rfl⟩
      have HQ := Aside0.mk (show Below W1.heap.size W1 Wq by rw [hWq]; exact below_drewN (Below.refl _ _) nq)
      have q2 : Wq.cell? ⟨g, 2, none⟩ = some (.slice (some ⟨rb, 0, none⟩) (usedEnts a c S.ents).length cap) := by rw [hWq]; exact cg2
      have q0 : Wq.cell? ⟨rb, 0, none⟩ = some (.int .i64 x.1.f0) := by rw [hWq]; exact cr0
      have q1 : Wq.cell? ⟨rb, 1, none⟩ = some (.int .i64 x.1.f1) := by rw [hWq]; exact cr1
      have lq : W1.heap.size ≤ Wq.heap.size := HQ.out.size
      rw [← hWq]
      clear hWq cg2 cg0 cr0 cr1
      go_wp2_with fail
      refine (HCALL.out Wq HQ.out).mono ?_
      rintro e W2 ⟨rfl, F2, hP2, hf2, hk2, hb2⟩
      rw [HPUT.out] at hP2
      have HX := Aside0.mk (show PoolPost B g F (putS a c S) W W2 from ⟨F2, hP2, fun k hk => (hf2 k hk).elim (fun z => HF1.out k z) (fun z => Or.inr (by have h1 := HK1.out.1; simp at z; omega)),
        HK1.out.then_ (((Kept.of_below HQ.out F1).alloc _).then_ hk2 (fun k z => Or.inl z)) (fun k z => HF1.out k z), HB1.out.trans (((HQ.out.mono (by have := (HP1.out.hr g HP1.out.hF.1); omega)).trans ((below_alloc (Below.refl _ _) _).mono (by have := (HP1.out.hr g HP1.out.hF.1); omega))).trans hb2)⟩)
      clear HCALL hP2 hf2 hk2 hb2
      go_wp2_with fail
      go_end0
      exact ⟨rfl, HX.out⟩
  · have hd : decide (S.cap < ((usedEnts a c S.ents).length : Int)) = false := decide_eq_false hc
    have hput : used a c S = putS a c S := by
      unfold used putS
      rw [if_neg hc]
    have HPUT := Aside0.mk hput
    clear hc hput
    go_wp2_with fail
    go_quiet (fail)
    go_wp2_with fail
    go_end0
    rw [← HPUT.out]
    exact ⟨rfl, F1, PoolIs.below ⟨bm1, _, m1, HP1.out⟩ (below_drewN (Below.refl _ _) _), HF1.out, HK1.out.drewN _, below_drewN HB1.out _⟩
end Go.Proofs.Ytlfmlmnpbcidnaa.PG
