/- slices.DeleteFunc with the closure that forgets pages: what is kept, in order, and what the map then holds. -/
import Derived.Test.YtlfmlmnpbcidnaaForget
import Derived.Lib.SliceRun
namespace Go.Proofs.Ytlfmlmnpbcidnaa.PG
open Go.RowKit Go.Proofs.YtlfmlmnpbcidnaaW.PrintWords Go.Proofs.YtlfmlmnpbcidnaaW.PrintLast Go.Proofs.YtlfmlmnpbcidnaaW.PrintMore
set_option linter.unusedVariables false
set_option linter.unusedSimpArgs false
/-! ### slices.DeleteFunc with the closure that forgets -/
theorem zero40 (w : World) : (zeroValue 40).run Try.prog w = .ok (.agg #[.int .i64 0, .int .i64 0]) w := by kernel_rfl
theorem zeroCells_one (n : Nat) : ∀ v ∈ (Builtin.zeroCells #[.int .i64 0, .int .i64 0] n).toList, v.oneCell' = true := by
  intro v hv
  unfold Builtin.zeroCells at hv
  simp at hv
  obtain ⟨i, hi, rfl⟩ := hv
  rcases Nat.mod_two_eq_zero_or_one i with e | e <;> simp [e, Value.oneCell']
theorem RowAt.run_clear {W : World} {rb cap : Nat} {ys : List S40} (h : RowAt W rb cap ys) (i : Nat) (hi : i < ys.length) (ty : TypeId) (c : Nat) :
    ∃ W', (Builtin.clear_ #[28] ty #[.slice (some ⟨rb, i * 2, none⟩) (ys.length - i) c]).run Try.prog W = .ok (.tuple #[]) W' ∧ RowAt W' rb cap (ys.take i) ∧ W.grownBy W' (some rb) := by
  have hle := h.le
  have hlen : (Builtin.zeroCells #[.int .i64 0, .int .i64 0] (ys.length - i)).toList.length = (ys.length - i) * 2 := by rw [Array.length_toList, size_zeroCells]; rfl
  refine ⟨W.setCells rb (i * 2) (Builtin.zeroCells #[.int .i64 0, .int .i64 0] (ys.length - i)).toList, ?_, h.cut i _ (by omega) (by rw [hlen]; omega), ?_⟩
  · obtain ⟨cur, hh, hs, hn, hc⟩ := h
    have hst := run_storeCells_cells (P := Try.prog) rb (i * 2) (Builtin.zeroCells #[.int .i64 0, .int .i64 0] (ys.length - i)).toList 0 W (fun j hj => by
      rw [hlen] at hj
      rw [blk_cell hh]
      simp
      omega) (fun j hj => blk_frozen hh _) (zeroCells_one _)
    obtain ⟨k, hk⟩ : ∃ k, ys.length - i = k + 1 := ⟨ys.length - i - 1, by omega⟩
    rw [hk] at hst ⊢
    simp only [Nat.add_zero] at hst
    simp [Builtin.clear_, run_underlying Try.underlying28, zero40, Value.cells, hst]
  · obtain ⟨s1, s2, s3, s4⟩ := setCells_same rb (Builtin.zeroCells #[.int .i64 0, .int .i64 0] (ys.length - i)).toList (i * 2) W
    exact ⟨s1, s2, s3, by rw [s4]; exact Nat.le_refl _, fun k hk hne => setCells_far _ _ k (fun e => hne (by rw [e]))⟩
/-- In the middle: the first i places of ys are what is kept of the first j places of xs; from j on all is as it was. -/
structure KInv (q : S40 → Bool) (xs : List S40) (j i : Nat) (ys : List S40) : Prop where
  len : ys.length = xs.length
  kept : (xs.take j).filter (fun a => !q a) = ys.take i
  ij : i < j
  high : ∀ t, j ≤ t → ys[t]? = xs[t]?
theorem KInv.skip {q : S40 → Bool} {xs : List S40} {j i : Nat} {ys : List S40} (h : KInv q xs j i ys) (hj : j < xs.length) (hq : q xs[j] = true) : KInv q xs (j + 1) i ys :=
  ⟨h.len, by rw [List.take_succ_eq_append_getElem hj, List.filter_append, h.kept]; simp [hq], by have := h.ij; omega, fun t ht => h.high t (by omega)⟩
theorem KInv.keep {q : S40 → Bool} {xs : List S40} {j i : Nat} {ys : List S40} (h : KInv q xs j i ys) (hj : j < xs.length) (hq : q xs[j] = false) : KInv q xs (j + 1) (i + 1) (ys.set i xs[j]) := by
  have hij := h.ij
  have hi : i < ys.length := by have := h.len; omega
  refine ⟨by rw [List.length_set]; exact h.len, ?_, by omega, fun t ht => ?_⟩
  · rw [List.take_succ_eq_append_getElem hj, List.filter_append, h.kept, List.take_succ_eq_append_getElem (by rw [List.length_set]; exact hi), List.getElem_set_self, List.take_set_of_le (Nat.le_refl i)]
    simp [hq]
  · rw [List.getElem?_set_ne (by omega)]
    exact h.high t (by omega)
theorem KInv.start {q : S40 → Bool} {xs : List S40} {i : Nat} (hi : i < xs.length) (hn : ∀ a ∈ xs.take i, q a = false) (hq : q xs[i] = true) : KInv q xs (i + 1) i xs :=
  ⟨rfl, by
    rw [List.take_succ_eq_append_getElem hi, List.filter_append]
    have : (xs.take i).filter (fun a => !q a) = xs.take i := List.filter_eq_self.2 (fun a ha => by rw [hn a ha]; rfl)
    rw [this]
    simp [hq], by omega, fun t _ => rfl⟩
/-- The map in the middle: what was said of has gone. -/
def Gone (q : S40 → Bool) (xs : List S40) (m m' : Ents) : Prop := ∀ a, look a m' = if a ∈ xs ∧ q a = true then none else look a m
theorem Gone.step {q : S40 → Bool} {xs : List S40} {m m' : Ents} {j : Nat} (hn : (keys m').Nodup) (h : Gone q (xs.take j) m m') (hj : j < xs.length) : Gone q (xs.take (j + 1)) m (if q xs[j] = true then del xs[j] m' else m') := by
  intro a
  rw [List.take_succ_eq_append_getElem hj]
  by_cases hq : q xs[j] = true
  · rw [if_pos hq, look_del _ _ _ hn, h a]
    by_cases ha : a = xs[j]
    · rw [if_pos ha, if_pos ⟨List.mem_append_right _ (List.mem_singleton.2 ha), by rw [ha]; exact hq⟩]
    · rw [if_neg ha]
      by_cases hb : a ∈ xs.take j ∧ q a = true
      · rw [if_pos hb, if_pos ⟨List.mem_append_left _ hb.1, hb.2⟩]
      · rw [if_neg hb, if_neg (fun z => hb ⟨(List.mem_append.1 z.1).elim id (fun y => absurd (List.mem_singleton.1 y) ha), z.2⟩)]
  · rw [if_neg hq, h a]
    by_cases hb : a ∈ xs.take j ∧ q a = true
    · rw [if_pos hb, if_pos ⟨List.mem_append_left _ hb.1, hb.2⟩]
    · rw [if_neg hb, if_neg (fun z => hb ⟨(List.mem_append.1 z.1).elim id (fun y => absurd (by rw [← List.mem_singleton.1 y]; exact z.2) hq), z.2⟩)]
theorem Gone.at_ {q : S40 → Bool} {xs : List S40} {m m' : Ents} {j : Nat} (h : Gone q (xs.take j) m m') (hnd : xs.Nodup) (hj : j < xs.length) : look xs[j] m' = look xs[j] m := by
  rw [h xs[j], if_neg]
  rintro ⟨h1, _⟩
  obtain ⟨t, ht, he⟩ := List.getElem_of_mem h1
  rw [List.length_take] at ht
  rw [List.getElem_take] at he
  have := (List.getElem_inj hnd).1 he
  omega
def DelPost (q : S40 → Bool) (xs : List S40) (m : Ents) (B bm rb cap : Nat) (W W' : World) : Prop :=
  RowAt W' rb cap (xs.filter fun a => !q a) ∧ (∃ m', MapIs W' bm m' ∧ Gone q xs m m') ∧ Kept W W' (fun k => k = bm ∨ some k = some rb) ∧ Below B W W'
set_option maxHeartbeats 2000000 in
set_option maxRecDepth 100000 in
theorem delfun_calls (W : World) (xb wb g bm B : Nat) (f : FuncId) (caps : Array Value) (c0 v c3 c4 : Value) (p : S40 → Cont → Bool) (rb cap : Nat) (xs : List S40) (m : Ents) (eg : ∀ args w, (callFunc f args).run Try.prog w = .ok (.enter f args) w)
    (hp : WhichOk W bm (some rb) f caps p) (hs : Shut W xb wb g bm B f caps c0 v c3 c4) (hm : MapIs W bm m) (hl : ∀ a ∈ xs, look a m ≠ none) (hnd : xs.Nodup) (hn : xs.length ≤ 4611686018427387904) (hr : RowAt W rb cap xs) (hBr : B ≤ rb) (hcm : cap ≤ maxLen) :
    Calls Try.prog 35 #[.slice (some ⟨rb, 0, none⟩) xs.length cap, .func (.func 36) #[] #[.pointer (some ⟨wb, 0, none⟩), .pointer (some ⟨xb, 0, none⟩)]] W fun e W' =>
      e = .returned (.slice (some ⟨rb, 0, none⟩) (xs.filter fun a => !says p m a).length cap) ∧ DelPost (says p m) xs m B bm rb cap W W' := by
  have hix := index_calls W W xb wb g bm B f caps c0 v c3 c4 p (some rb) (some ⟨rb, 0, none⟩) cap xs m eg hp (Kept.refl _ _) hs hm hl hn (fun W' hk => by
    obtain ⟨A, c, hv, _, hC⟩ := Kd.R_reads ((hr.move (hk.2 rb hr.lt (hr.ne_map hm))).toR hBr hcm (ok := fun _ => True) trivial)
    cases hv
    exact hC)
  have HIX := Aside0.mk hix
  have HP := Aside0.mk hp
  have HS := Aside0.mk hs
  have HM := Aside0.mk hm
  have HL := Aside0.mk hl
  have HND := Aside0.mk hnd
  have HR := Aside0.mk hr
  have EG := Aside0.mk eg
  have hle := hr.le
  have hcm' : cap ≤ 9223372036854775807 := hcm
  have hne1 : rb ≠ bm := hr.ne_map hm
  clear hp hs hm hl hnd hr eg hix hcm
  go_enter Try.func35, Try.ntmps35
  go_wp2_with fail
  refine HIX.out.mono ?_
  rintro e W1 ⟨r, rfl, hpost⟩
  clear HIX
  rcases hpost with ⟨rfl, hall, hf⟩ | ⟨i0, hi0, rfl, hno, hyes, hf⟩
  · have HALL := Aside0.mk hall
    have HF := Aside0.mk hf
    clear hall hf
    go_wp2_with fail
    go_ret
    have e1 : (xs.filter fun a => !says p m a) = xs := List.filter_eq_self.2 (fun a ha => by rw [HALL.out a ha]; rfl)
    rw [e1]
    refine ⟨rfl, ?_⟩
    unfold DelPost
    rw [e1]
    refine ⟨HR.out.move (HF.out.2.1.2 rb HR.out.lt hne1), ⟨m, HF.out.1, fun a => ?_⟩, HF.out.2.1.mono (fun k hk => Or.inl hk), HF.out.2.2⟩
    by_cases ha : a ∈ xs ∧ says p m a = true
    · rw [HALL.out a ha.1] at ha
      exact absurd ha.2 (by simp)
    · rw [if_neg ha]
  · have hb1 : ((i0 : Int) == -1) = false := beq_eq_false_iff_ne.2 (by omega)
    have HI := Aside0.mk (KInv.start hi0 hno hyes)
    have HGO : Aside0 (Gone (says p m) (xs.take (i0 + 1)) m (del xs[i0] m)) := ⟨fun a => by
      rw [look_del _ _ _ HM.out.nodup, List.take_succ_eq_append_getElem hi0]
      by_cases ha : a = xs[i0]
      · rw [if_pos ha, if_pos ⟨List.mem_append_right _ (List.mem_singleton.2 ha), by rw [ha]; exact hyes⟩]
      · rw [if_neg ha, if_neg]
        rintro ⟨h1, h2⟩
        rcases List.mem_append.1 h1 with h1 | h1
        · rw [hno a h1] at h2; exact absurd h2 (by simp)
        · exact ha (List.mem_singleton.1 h1)⟩
    have HF := Aside0.mk hf
    clear hno hyes hf
    go_wp2_with fail
    go_loopg [5, 6, 7] xs.length (fun gg s5 s6 _ wr => ∃ (i j : Nat) (ys : List S40) (m' : Ents), s5 = .int .i64 i ∧ s6 = .int .i64 j ∧ j ≤ xs.length ∧ xs.length - j ≤ gg ∧ Aside0 (KInv (says p m) xs j i ys) ∧ Aside0 (Gone (says p m) (xs.take j) m m') ∧ Aside0 (RowAt wr rb cap ys) ∧ Aside0 (MapIs wr bm m') ∧ Aside0 (Kept W wr (fun k => k = bm ∨ some k = some rb)) ∧ Aside0 (Below B W wr))
    case atStart => exact ⟨i0, i0 + 1, xs, del xs[i0] m, rfl, by go_num, by omega, by omega, HI, HGO, ⟨HR.out.move (HF.out.2.1.2 rb HR.out.lt hne1)⟩, ⟨HF.out.1⟩, ⟨HF.out.2.1.mono (fun k hk => Or.inl hk)⟩, ⟨HF.out.2.2⟩⟩
    case round =>
      clear HI HGO HF
      obtain ⟨i, j, ys, m', rfl, rfl, hjd, hgg, HI, HGO, HRY, HM1, HK, HB⟩ := hrel
      have hij := HI.out.ij
      have hyl := HI.out.len
      by_cases hlt : j < xs.length
      · have hltz : (j : Int) < (xs.length : Int) := by omega
        have hyj : ys[j]'(by omega) = xs[j] := by
          have := HI.out.high j (Nat.le_refl j)
          rw [List.getElem?_eq_getElem (by omega), List.getElem?_eq_getElem hlt] at this
          exact Option.some.inj this
        obtain ⟨r0, r1⟩ := HRY.out.cells j (by omega)
        obtain ⟨w0, w1⟩ := HRY.out.cells i (by omega)
        rw [hyj] at r0 r1
        have f0 := HRY.out.free (i * 2)
        have f1 := HRY.out.free (i * 2 + 1)
        have lrb := HRY.out.lt
        have hat := HGO.out.at_ HND.out hlt
        have hsq : says p m' xs[j] = says p m xs[j] := by unfold says; rw [hat]
        have hwa : Below W.heap.size W W := Below.refl _ _
        have hKA : Kept W (wr.alloc (.cells #[.int .i64 xs[j].f0, .int .i64 xs[j].f1] 40)) (fun k => k = bm ∨ some k = some rb) := HK.out.alloc _
        have hcall := fg_at (W0 := W) EG.out HP.out hKA (HS.out.kept hKA (fun z => z.elim (HM.out.ne HS.out.hx) (fun z => HR.out.ne HS.out.hx (by decide) (Option.some.inj z))) (fun z => z.elim (HM.out.ne HS.out.hw) (fun z => HR.out.ne HS.out.hw (by decide) (Option.some.inj z))) (fun z => z.elim (HM.out.ne HS.out.hg) (fun z => HR.out.ne HS.out.hg (by decide) (Option.some.inj z)))) (HM1.out.move (Below.heap_alloc wr _ bm HM1.out.lt)) xs[j] (by rw [hat]; exact HL.out _ (List.getElem_mem hlt))
        rw [hsq] at hcall
        unfold encP at hcall
        have HCALL := Aside0.mk hcall
        have hstep := HGO.out.step HM1.out.nodup hlt
        have HSTEP := Aside0.mk hstep
        have hnb : wr.heap.size ≠ bm := by have := HM1.out.lt; omega
        clear hcall hat hwa hKA hstep hsq
        cases hq : says p m xs[j] with
        | true =>
          rw [hq] at HCALL HSTEP
          have HQ := Aside0.mk hq
          clear hq
          go_wp2_with fail
          with_reducible refine HCALL.out.mono ?_
          rintro e W2 ⟨rfl, hf⟩
          have HF1 := Aside0.mk hf
          clear hf HCALL
          go_wp2_with fail
          go_roundg (xs.length - (j + 1))
          case measure => omega
          case rel =>
            have h2 := HF1.out
            simp only [if_true] at h2
            have h3 := HSTEP.out
            simp only [if_true] at h3
            exact ⟨i, j + 1, ys, _, rfl, by go_num, by omega, Nat.le_refl _, ⟨HI.out.skip hlt HQ.out⟩, ⟨h3⟩, ⟨(HRY.out.move (Below.heap_alloc wr _ rb HRY.out.lt)).move (h2.2.1.2 rb (by simp; omega) hne1)⟩, ⟨h2.1⟩, ⟨(HK.out.alloc _).then_ h2.2.1 (fun k hk => Or.inl (Or.inl hk))⟩, ⟨(HB.out.alloc (by have := HB.out.size; have := HS.out.hB; have := HM.out.lt; omega) _).trans h2.2.2⟩⟩
        | false =>
          rw [hq] at HCALL HSTEP
          have HQ := Aside0.mk hq
          clear hq
          go_wp2_with fail
          with_reducible refine HCALL.out.mono ?_
          rintro e W2 ⟨rfl, hf⟩
          rw [if_neg (by simp)] at hf
          have HF1 := Aside0.mk hf
          have HR2 : Aside0 (RowAt W2 rb cap ys) := ⟨(HRY.out.move (Below.heap_alloc wr _ rb HRY.out.lt)).move (hf.2.1.2 rb (by simp; omega) hne1)⟩
          have hnew := blk_kept (blk_new wr (.cells #[.int .i64 xs[j].f0, .int .i64 xs[j].f1] 40)) hf.2.1 hnb
          have n0 : W2.cell? ⟨wr.heap.size, 0, none⟩ = some (.int .i64 xs[j].f0) := by rw [blk_cell hnew]; rfl
          have n1 : W2.cell? ⟨wr.heap.size, 1, none⟩ = some (.int .i64 xs[j].f1) := by rw [blk_cell hnew]; rfl
          obtain ⟨w20, w21⟩ := HR2.out.cells i (by omega)
          have f20 := HR2.out.free (i * 2)
          have f21 := HR2.out.free (i * 2 + 1)
          clear hf HCALL hnew
          go_wp2_with fail
          go_roundg (xs.length - (j + 1))
          case measure => omega
          case rel =>
            have h2 := HF1.out
            have h3 := HSTEP.out
            rw [if_neg (by simp)] at h3
            have hK2 : Kept W W2 (fun k => k = bm ∨ some k = some rb) := (HK.out.alloc _).then_ h2.2.1 (fun k hk => Or.inl (Or.inl hk))
            have hB2 : Below B W W2 := (HB.out.alloc (by have := HB.out.size; have := HS.out.hB; have := HM.out.lt; omega) _).trans h2.2.2
            have hR3 := HR2.out.set i (by omega) xs[j]
            exact ⟨i + 1, j + 1, ys.set i xs[j], m', by go_num, by go_num, by omega, Nat.le_refl _, ⟨HI.out.keep hlt HQ.out⟩, ⟨h3⟩, ⟨hR3⟩, ⟨(h2.1.move (Below.heap_setCell _ _ _ bm (fun e => hne1 e.symm))).move (Below.heap_setCell _ _ _ bm (fun e => hne1 e.symm))⟩, ⟨(hK2.setCell (Or.inl (Or.inr rfl)) _).setCell (Or.inl (Or.inr rfl)) _⟩, ⟨(hB2.setCell hBr _).setCell hBr _⟩⟩
      · obtain rfl : j = xs.length := by omega
        have hltz : ¬ (xs.length : Int) < (xs.length : Int) := by omega
        obtain ⟨W3, hclr, hR3, hG3⟩ := HRY.out.run_clear i (by omega) 0 (cap - i)
        rw [hyl] at hclr
        have HR3 := Aside0.mk hR3
        have HG3 := Aside0.mk hG3
        clear hR3 hG3
        go_wp2_with fail
        go_ret
        have hk := HI.out.kept
        have hgo := HGO.out
        rw [List.take_length] at hk hgo
        have hlen : (xs.filter fun a => !says p m a).length = i := by rw [hk, List.length_take]; omega
        rw [hlen]
        refine ⟨rfl, ?_⟩
        unfold DelPost
        rw [hk]
        exact ⟨HR3.out, ⟨m', HM1.out.move (HG3.out.block bm HM1.out.lt (fun e => hne1 (Option.some.inj e).symm)), hgo⟩, Kept.of_grown HG3.out HK.out (fun k hk => Or.inl (Or.inr hk.symm)), HB.out.grown HG3.out (by have := HB.out.size; have := HS.out.hB; have := HM.out.lt; omega) (fun k hk => by cases hk; exact hBr)⟩
end Go.Proofs.Ytlfmlmnpbcidnaa.PG
