/- FailAfter, Repair, Damage. -/
import Derived.Test.YtflajmgichdhhaaInv
import Derived.BigQuiet


namespace Go.Proofs.Ytflajmgichdhhaa.PG
open Go.RowKit Go.Proofs.YtflajmgichdhhaaW.PrintWords Go.Proofs.YtflajmgichdhhaaW.PrintLast Go.Proofs.YtflajmgichdhhaaW.PrintMore

set_option linter.unusedVariables false
set_option linter.unusedSimpArgs false
attribute [local go_sem] max2_int min2_int max_two min_two
/-! ### slices.Clone of numbers, FailAfter, Repair -/
theorem nil29 (w : World) (n c : Nat) : (binOp .eql 29 (.slice none n c) (.slice none 0 0)).run Try.prog w = .ok (.bool true) w := by kernel_rfl
theorem some29 (w : World) (ad : Addr) (n c : Nat) : (binOp .eql 29 (.slice (some ad) n c) (.slice none 0 0)).run Try.prog w = .ok (.bool false) w := by kernel_rfl
set_option maxRecDepth 100000 in
theorem clone46 (W : World) (A : Option Addr) (c : Nat) (l : List Int) (hC : Kd.C (Kd.int .i64) W A l.length l) (hl : l.length ≤ 1000000) :
    Calls Try.prog 46 #[.slice A l.length c] W fun e W' => ∃ v, e = .returned v ∧ Kd.R (Kd.int .i64) 3 W' W.heap.size (fun k => W.heap.size ≤ k) v l ∧ Below W.heap.size W W' := by
  cases A with
  | none =>
    have h0 : l = [] := by
      rcases Nat.eq_zero_or_pos l.length with h | h
      · exact List.eq_nil_of_length_eq_zero h
      · obtain ⟨ad, e, _⟩ := hC.2.2 h
        cases e
    subst h0
    have hn := nil29
    clear hC
    go_enter Try.func46, Try.ntmps46
    go_wp2_with fail
    go_ret
    exact ⟨_, rfl, Kd.R_nil _ _ _ _ _, Below.refl _ _⟩
  | some ad =>
    have hs := some29
    have HC := Aside0.mk hC
    clear hC
    go_enter Try.func46, Try.ntmps46
    go_wp2_with (at_builtin; with_reducible refine stopHere ?_)
    refine ⟨?_⟩
    have hO : Kd.R (Kd.int .i64) 3 (W.alloc (.cells #[] 3)) W.heap.size (fun k => W.heap.size ≤ k) (.slice (some ⟨W.heap.size, 0, none⟩) 0 0) [] := by
      refine ⟨fun k hk => ?_, [], ⟨rfl, Or.inr ⟨W.heap.size, 0, #[], rfl, Nat.le_refl _, blk_new _ _, Nat.le_refl _, Nat.zero_le _, rfl, rfl⟩⟩, Reps.none _ _⟩
      simp [Value.ownBlock] at hk
      omega
    refine Kd.R_append_rows (Kd.int .i64) (w0 := W) W.heap.size rfl (.tmp 5) (.tmp 6) 29 3 (.int .i64 0) 8 rfl Try.underlying29 info3 rfl (by decide) (by omega) _ [] l (some ad) l.length c (fun k => W.heap.size ≤ k) (fun _ => False) rfl rfl hO (Kd.C_alloc HC.out _) (fun _ _ h => h) (fun _ h => h.elim) (fun k hk => by simp at hk; omega) (below_alloc (Below.refl _ _) _) (by simp) (by simp; omega) ?_
    intro v1 w1 hR hb hg hat
    have HR := Aside0.mk hR
    have HB := Aside0.mk hb
    clear hR hb hg hat hO
    go_wp2_with fail
    go_ret
    exact ⟨v1, rfl, HR.out, HB.out⟩
theorem DevAt.more {W : World} {B : Nat} {L : Lay} {vs : List Value} {pv uv : Value} {m : Ents} {F F' : Nat → Prop} {S : DevS} (h : DevAt W B L vs pv uv m F S) (h1 : ∀ k, F k → F' k) (h2 : ∀ k, F' k → B ≤ k ∧ k < W.heap.size) : DevAt W B L vs pv uv m F' S :=
  { h with
    hv := fun i v x a b => Kd.V_mono (h.hv i v x a b) (fun k hk => ⟨h1 k hk.1, hk.2⟩)
    hp := Kd.R_mono h.hp h1
    hu := Kd.V_mono h.hu (fun k hk => ⟨h1 k hk.1, hk.2⟩)
    hF := ⟨h1 _ h.hF.1, h1 _ h.hF.2.1, h1 _ h.hF.2.2.1, h1 _ h.hF.2.2.2⟩
    hr := h2 }
theorem DevAt.arm {W0 W : World} {B : Nat} {L : Lay} {vs : List Value} {pv uv v : Value} {m : Ents} {F : Nat → Prop} {S : DevS} (h0 : DevAt W0 B L vs pv uv m F S) (hb : Below W0.heap.size W0 W) (x : Int) (l : List Int) (hR : Kd.R (Kd.int .i64) 3 W W0.heap.size (fun k => W0.heap.size ≤ k) v l) :
    DevPost B L F { S with fset := true, left := x, surv := l } W0 (((W.setCell ⟨L.g, 4, none⟩ (.bool true)).setCell ⟨L.g, 5, none⟩ (.int .i64 x)).setCell ⟨L.g, 6, none⟩ v) := by
  have h := h0.below hb
  have hs := hb.size
  have hB : B ≤ W0.heap.size := by have := h0.hr _ h0.hF.1; omega
  have hfar : ∀ k, k ≠ L.g → (((W.setCell ⟨L.g, 4, none⟩ (.bool true)).setCell ⟨L.g, 5, none⟩ (.int .i64 x)).setCell ⟨L.g, 6, none⟩ v).heap[k]? = W.heap[k]? := fun k hk =>
    (Below.heap_setCell _ _ _ _ hk).trans ((Below.heap_setCell _ _ _ _ hk).trans (Below.heap_setCell _ _ _ _ hk))
  have hm : DevAt W B L vs pv uv m (fun k => F k ∨ (W0.heap.size ≤ k ∧ k < W.heap.size)) S := h.more (fun k z => Or.inl z) (fun k z => z.elim (fun y => h.hr k y) (fun y => ⟨by omega, y.2⟩))
  refine ⟨fun k => F k ∨ (W0.heap.size ≤ k ∧ k < W.heap.size), ⟨vs, pv, v, m, hm.setG v _ rfl rfl rfl rfl (blk_put (blk_put (blk_put h.hg 4 _ rfl) 5 _ rfl) 6 _ (by rfl)) (fun k hk _ => hfar k hk) (by simp [World.setCell]) ?_⟩, fun k z => z.imp id (fun y => y.1), ?_, ?_⟩
  · have hv := Kd.R_V (base' := 0) (Kd.R_mono (Kd.R_step (Kd.R_types hR h.hg (by decide)) (fun k hk _ => hfar k hk.2)) (fun k hk => hk.1))
    refine Kd.V_mono (Kd.V_bound hv) (fun k hk => ⟨Or.inr ⟨hk.1, by have := hk.2; simpa [World.setCell] using this⟩, fun z => ?_⟩)
    have := (h0.hr k (h0.own k z)).2
    have := hk.1
    omega
  · exact (((Kept.of_below hb F).setCell (p := ⟨L.g, 4, none⟩) (Or.inl h.hF.1) _).setCell (p := ⟨L.g, 5, none⟩) (Or.inl h.hF.1) _).setCell (p := ⟨L.g, 6, none⟩) (Or.inl h.hF.1) _
  · exact (((hb.mono hB).setCell (p := ⟨L.g, 4, none⟩) (h.hr _ h.hF.1).1 _).setCell (p := ⟨L.g, 5, none⟩) (h.hr _ h.hF.1).1 _).setCell (p := ⟨L.g, 6, none⟩) (h.hr _ h.hF.1).1 _
def failS (S : DevS) (n : Int) (l : List Int) : DevS := if S.failed = true then S else { S with fset := true, left := max 0 n, surv := l }
set_option maxHeartbeats 1000000 in
set_option maxRecDepth 100000 in
theorem failafter_calls {W : World} {B : Nat} {L : Lay} {F : Nat → Prop} {S : DevS} (hI : DevIs W B L F S) (n : Int) (A : Option Addr) (c : Nat) (l : List Int) (hC : Kd.C (Kd.int .i64) W A l.length l) (hl : l.length ≤ 1000000) :
    Calls Try.prog 36 #[.pointer (some ⟨L.g, 0, none⟩), .int .i64 n, .slice A l.length c] W fun e W' => e = .returned (.tuple #[]) ∧ DevPost B L F (failS S n l) W W' := by
  have HI := Aside0.mk hI
  have hB := hI.hB
  obtain ⟨vs, pv, uv, m, hP⟩ := hI
  have c7 := hP.c7
  unfold failS
  cases hfa : S.failed with
  | true =>
    rw [if_pos rfl]
    rw [hfa] at c7
    clear hP hfa hC
    go_enter Try.func36, Try.ntmps36
    go_wp2_with fail
    refine bodyPost_ret (results_none rfl _ _ _) rfl ?_
    exact ⟨rfl, DevPost.same HI.out (Below.refl _ _)⟩
  | false =>
    rw [if_neg (by simp)]
    rw [hfa] at c7
    have HP := Aside0.mk hP
    have HCL := Aside0.mk (clone46 W A c l hC hl)
    have HFA := Aside0.mk hfa
    clear hP hfa hC
    by_cases hn : 0 < n
    · have hmx : max 0 n = n := by omega
      rw [hmx]
      go_enter Try.func36, Try.ntmps36
      go_wp2_with fail
      refine HCL.out.mono ?_
      rintro e W2 ⟨v, rfl, hR, hb⟩
      obtain ⟨A2, c2, hv, _, _⟩ := Kd.R_reads hR
      have hP2 := HP.out.below hb
      have k4 := hP2.c4
      have k5 := hP2.c5
      have k6 := hP2.c6
      have f4 := hP2.fg 4
      have f5 := hP2.fg 5
      have f6 := hP2.fg 6
      subst hv
      have HR := Aside0.mk hR
      have HB := Aside0.mk hb
      have HP2 := Aside0.mk hP2
      clear hR hb hP2 HCL
      go_wp2_with fail
      go_end0
      have h := HP.out.arm HB.out n l HR.out
      rw [HFA.out] at h
      exact ⟨rfl, h⟩
    · have hmx : max 0 n = 0 := by omega
      rw [hmx]
      go_enter Try.func36, Try.ntmps36
      go_wp2_with fail
      refine HCL.out.mono ?_
      rintro e W2 ⟨v, rfl, hR, hb⟩
      obtain ⟨A2, c2, hv, _, _⟩ := Kd.R_reads hR
      have hP2 := HP.out.below hb
      have k4 := hP2.c4
      have k5 := hP2.c5
      have k6 := hP2.c6
      have f4 := hP2.fg 4
      have f5 := hP2.fg 5
      have f6 := hP2.fg 6
      subst hv
      have HR := Aside0.mk hR
      have HB := Aside0.mk hb
      have HP2 := Aside0.mk hP2
      clear hR hb hP2 HCL
      go_wp2_with fail
      go_end0
      have h := HP.out.arm HB.out 0 l HR.out
      rw [HFA.out] at h
      exact ⟨rfl, h⟩
set_option maxRecDepth 100000 in
theorem repair_calls {W : World} {B : Nat} {L : Lay} {F : Nat → Prop} {S : DevS} (hI : DevIs W B L F S) :
    Calls Try.prog 37 #[.pointer (some ⟨L.g, 0, none⟩)] W fun e W' => e = .returned (.tuple #[]) ∧ DevPost B L F { S with failed := false, fset := false, left := 0, surv := [] } W W' := by
  obtain ⟨vs, pv, uv, m, hP⟩ := hI
  have k4 := hP.c4
  have k5 := hP.c5
  have k6 := hP.c6
  have k7 := hP.c7
  have f4 := hP.fg 4
  have f5 := hP.fg 5
  have f6 := hP.fg 6
  have f7 := hP.fg 7
  have HP := Aside0.mk hP
  obtain ⟨A, c, hu, _⟩ := hP.hu
  subst hu
  clear hP
  go_enter Try.func37, Try.ntmps37
  go_wp2_with fail
  go_end0
  have hbl := HP.out.blow false
  exact ⟨rfl, F, ⟨vs, pv, _, m, hbl⟩, fun k z => Or.inl z, ((((Kept.refl W F).setCell (p := ⟨L.g, 7, none⟩) (Or.inl HP.out.hF.1) _).setCell (p := ⟨L.g, 4, none⟩) (Or.inl HP.out.hF.1) _).setCell (p := ⟨L.g, 5, none⟩) (Or.inl HP.out.hF.1) _).setCell (p := ⟨L.g, 6, none⟩) (Or.inl HP.out.hF.1) _,
    ((((Below.refl B W).setCell (p := ⟨L.g, 7, none⟩) (HP.out.hr _ HP.out.hF.1).1 _).setCell (p := ⟨L.g, 4, none⟩) (HP.out.hr _ HP.out.hF.1).1 _).setCell (p := ⟨L.g, 5, none⟩) (HP.out.hr _ HP.out.hF.1).1 _).setCell (p := ⟨L.g, 6, none⟩) (HP.out.hr _ HP.out.hF.1).1 _⟩
/-! ### Damage -/
def damB (s : ByteArray) (at_ : Nat) (mask : Int) : ByteArray := strOfNums ((bytesOf s).set at_ (bits BinOp.xor IntKind.u8 (((s.data.toList.getD at_ 0).toNat : Nat) : Int) mask))
theorem damB_size (s : ByteArray) (at_ : Nat) (mask : Int) : (damB s at_ mask).size = s.size := by
  unfold damB strOfNums
  show (List.map _ _).toArray.size = _
  rw [List.size_toArray, List.length_map, List.length_set, bytesOf_length]
theorem reads_put {w : World} {k : IntKind} {nb n : Nat} {xs : List Int} (h : ReadsInt w k (some ⟨nb, 0, none⟩) n xs) (a : Nat) (ha : a < n) (v : Int) : ReadsInt (w.setCell ⟨nb, a, none⟩ (.int k v)) k (some ⟨nb, 0, none⟩) n (xs.set a v) := by
  obtain ⟨h1, h2, h3⟩ := h
  refine ⟨by rw [List.length_set]; exact h1, h2, fun hn => ?_⟩
  obtain ⟨ad, e, hc⟩ := h3 hn
  refine ⟨ad, e, fun j hj => ?_⟩
  cases e
  have hcj := hc j hj
  rw [add_plain] at hcj ⊢
  by_cases e : a = j
  · subst e
    rw [World.cell?_setCell_same _ _ _ hcj, List.getD_eq_getElem?_getD, List.getElem?_set, if_pos rfl, if_pos (by omega)]
    rfl
  · rw [World.cell?_setCell_other _ _ _ _ (by intro h; injection h with _ h2 _; omega), hcj, List.getD_eq_getElem?_getD, List.getD_eq_getElem?_getD, List.getElem?_set, if_neg e]
def damageS (S : DevS) (sec at_ mask : Int) : Int × DevS :=
  if (0 ≤ sec ∧ sec < (S.stable.length : Int)) ∧ 0 ≤ at_ ∧ at_ < 140 then (if mask = 0 then (1, S) else (0, { S with stable := S.stable.set sec.toNat (damB (S.stable.getD sec.toNat ⟨#[]⟩) at_.toNat mask) })) else (2, S)
set_option maxHeartbeats 1000000 in
set_option maxRecDepth 100000 in
theorem damage_calls {W : World} {B : Nat} {L : Lay} {F : Nat → Prop} {S : DevS} {k : Nat} (hI : DevIs W B L F S) (hf : Fine k S) (sec at_ mask : Int) (hm0 : 0 ≤ mask) (hm1 : mask < 256) :
    Calls Try.prog 38 #[.pointer (some ⟨L.g, 0, none⟩), .int .i64 sec, .int .i64 at_, .int .u8 mask] W fun e W' => e = .returned (.int .i64 (damageS S sec at_ mask).1) ∧ DevPost B L F (damageS S sec at_ mask).2 W W' := by
  have HI := Aside0.mk hI
  have hB := hI.hB
  obtain ⟨vs, pv, uv, m, hP⟩ := hI
  unfold damageS
  by_cases h1 : 0 ≤ sec ∧ sec < (S.stable.length : Int)
  · have HT := Aside0.mk (there_yes hP sec h1.1 h1.2)
    by_cases h2 : 0 ≤ at_
    · have hd2 : decide (at_ < 0) = false := decide_eq_false (by omega)
      by_cases h3 : at_ < 140
      · have hd3 : decide (140 ≤ at_) = false := decide_eq_false (by omega)
        rw [if_pos ⟨h1, h2, h3⟩]
        by_cases h4 : mask = 0
        · rw [if_pos h4]
          have hd4 : (mask == 0) = true := by rw [h4]; rfl
          clear h4 hP hf h1
          go_enter Try.func38, Try.ntmps38
          go_wp2_with fail
          refine HT.out.mono ?_
          rintro e W2 ⟨rfl, rfl⟩
          go_wp2_with fail
          go_ret
          exact ⟨rfl, DevPost.same HI.out (Below.refl _ _)⟩
        · rw [if_neg h4]
          have hd4 : (mask == 0) = false := beq_eq_false_iff_ne.2 h4
          obtain ⟨n, hn⟩ := Int.eq_ofNat_of_zero_le h1.1
          obtain ⟨a, ha⟩ := Int.eq_ofNat_of_zero_le h2
          subst hn
          subst ha
          have hns : n < S.stable.length := by omega
          rw [Int.toNat_natCast, Int.toNat_natCast]
          have hst : S.stable.getD n ⟨#[]⟩ = S.stable[n] := by rw [List.getD_eq_getElem?_getD, List.getElem?_eq_getElem hns]; rfl
          rw [hst]
          have c0 := hP.c0
          have cs := hP.cs n hns
          have hsz : S.stable[n].size = 140 := hf.size _ (List.getElem_mem _)
          have fs : W.frozen? ⟨L.sb, n, none⟩ = false := blk_frozen hP.hs n
          have hnz : (n : Int) < (S.stable.length : Int) := h1.2
          have ls : L.sb < W.heap.size := blk_lt hP.hs
          have lg := hP.lg
          obtain ⟨x, hx⟩ : ∃ x, x = S.stable[n] := ⟨_, rfl⟩
          rw [← hx] at cs hsz ⊢
          have HP := Aside0.mk hP
          have HSZ := Aside0.mk hsz
          have hxl : (x.size : Int) ≤ 140 := by omega
          have hcv := print_bytes (P := Try.prog) 9 87 5 Try.underlying9 Try.underlying87 Try.underlying5 x W
          have hax : a < x.size := by omega
          have haz : (a : Int) < (x.size : Int) := by omega
          obtain ⟨W5, hW5⟩ : ∃ W5, W5 = Lib.bytesWorld W 5 x := ⟨_, rfl⟩
          have hb5 : Below W.heap.size W W5 := by rw [hW5]; exact bytes_below (Below.refl _ _) (Nat.le_refl _) 5 x
          have hx5 := Lib.bytesWorld_at_new W 5 x
          have q5' := Lib.bytesWorld_cell W 5 x a hax
          have hr5 := bytes_reads W 5 x (by omega)
          have hl5 := Lib.bytesWorld_size W 5 x
          rw [← hW5] at hx5 q5' hr5 hcv hl5
          obtain ⟨b, hb⟩ : ∃ b, b = (x.data.toList.getD a 0) := ⟨_, rfl⟩
          have q5 : W5.cell? ⟨W.heap.size, a, none⟩ = some (.int .u8 (b.toNat : Int)) := by rw [hb]; exact q5'
          have g5 : W5.frozen? ⟨W.heap.size, a, none⟩ = false := by
            unfold World.frozen?
            rw [hx5]
            show (decide (_ ≤ a) && _) = false
            have : ¬ (Lib.bytesCells W 5 x).size ≤ a := by unfold Lib.bytesCells; simp; have : x.data.size = x.size := rfl; omega
            rw [decide_eq_false this]; rfl
          have n5 : W.heap.size < W5.heap.size := by omega
          have c05 := (hb5.cell (p := ⟨L.g, 0, none⟩) lg).trans c0
          have cs5 := (hb5.cell (p := ⟨L.sb, n, none⟩) ls).trans cs
          have fs5 := (hb5.frozen (p := ⟨L.sb, n, none⟩) ls).trans fs
          have ne1 : W.heap.size ≠ L.sb := by omega
          have ne2 : W.heap.size ≠ L.g := by omega
          have hb0 : (0 : Int) ≤ (b.toNat : Int) := by omega
          have hb1 : (b.toNat : Int) < 256 := by have := b.toNat_lt; omega
          have hcv2 : (convert 87 9 (.slice (some ⟨W.heap.size, 0, none⟩) x.size (grownCap W x.size 0 5))).run Try.prog (W5.setCell ⟨W.heap.size, a, none⟩ (.int .u8 (bits BinOp.xor IntKind.u8 (b.toNat : Int) mask))).drew = .ok (.string (damB x a mask)) (W5.setCell ⟨W.heap.size, a, none⟩ (.int .u8 (bits BinOp.xor IntKind.u8 (b.toNat : Int) mask))).drew := by
            have h := string_of_reads (P := Try.prog) (src := 87) (dst := 9) (c := grownCap W x.size 0 5) Try.underlying87 Try.underlying5 Try.underlying9 (show ReadsInt (W5.setCell ⟨W.heap.size, a, none⟩ (.int .u8 (bits BinOp.xor IntKind.u8 (b.toNat : Int) mask))).drew .u8 (some ⟨W.heap.size, 0, none⟩) x.size _ from reads_put hr5 a hax _)
            unfold damB
            rw [← hb]
            exact h
          have HB5 := Aside0.mk hb5
          clear h4 hP hf h1 hst hx hns hsz hx5 hW5 hl5 hb hr5 hb5 q5'
          go_enter Try.func38, Try.ntmps38
          go_wp2_with fail
          refine HT.out.mono ?_
          rintro e W2 ⟨rfl, rfl⟩
          go_wp2_with fail
          go_region
          go_wp2_with fail
          go_ret
          have hb6 := HB5.out.setCell (p := ⟨W.heap.size, a, none⟩) (Nat.le_refl _) (.int .u8 (bits BinOp.xor IntKind.u8 (b.toNat : Int) mask))
          have h6 := (HP.out.below hb6).setStablePost n (damB x a mask)
          exact ⟨rfl, (h6.after hb6 hB).drewN 1⟩
      · have hd3 : decide (140 ≤ at_) = true := decide_eq_true (by omega)
        rw [if_neg (fun z => h3 z.2.2)]
        clear hP hf h1
        go_enter Try.func38, Try.ntmps38
        go_wp2_with fail
        refine HT.out.mono ?_
        rintro e W2 ⟨rfl, rfl⟩
        go_wp2_with fail
        go_ret
        exact ⟨rfl, DevPost.same HI.out (Below.refl _ _)⟩
    · have hd2 : decide (at_ < 0) = true := decide_eq_true (by omega)
      rw [if_neg (fun z => h2 z.2.1)]
      clear hP hf h1
      go_enter Try.func38, Try.ntmps38
      go_wp2_with fail
      refine HT.out.mono ?_
      rintro e W2 ⟨rfl, rfl⟩
      go_wp2_with fail
      go_ret
      exact ⟨rfl, DevPost.same HI.out (Below.refl _ _)⟩
  · have HT := Aside0.mk (there_no hP sec h1)
    rw [if_neg (fun z => h1 z.1)]
    clear hP hf h1
    go_enter Try.func38, Try.ntmps38
    go_wp2_with fail
    refine HT.out.mono ?_
    rintro e W2 ⟨rfl, rfl⟩
    go_wp2_with fail
    go_ret
    exact ⟨rfl, DevPost.same HI.out (Below.refl _ _)⟩
end Go.Proofs.Ytflajmgichdhhaa.PG
