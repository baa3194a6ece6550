/- finish: the pending writes that match end, each with its number of bytes. -/
import Derived.Test.YtflajmgichdhhaaOf
import Derived.BigQuiet


namespace Go.Proofs.Ytflajmgichdhhaa.PG
open Go.RowKit Go.Proofs.YtflajmgichdhhaaW.PrintWords Go.Proofs.YtflajmgichdhhaaW.PrintLast Go.Proofs.YtflajmgichdhhaaW.PrintMore

set_option linter.unusedVariables false
set_option linter.unusedSimpArgs false
attribute [local go_sem] max2_int min2_int max_two min_two
/-! ### finish -/
def bytesAt (l : List Int) (i : Nat) : Nat := match l[i]? with | some x => (min (max 0 x) 140).toNat | none => 0
theorem bytes_le (l : List Int) (i : Nat) : bytesAt l i ≤ 140 := by unfold bytesAt; split <;> omega
/-- data[:n] + s[n:] -/
def cut (d s : ByteArray) (n : Nat) : ByteArray := d.extract 0 n ++ s.extract n s.size
theorem cut_size (d s : ByteArray) (n : Nat) (hd : d.size = 140) (hs : s.size = 140) (hn : n ≤ 140) : (cut d s n).size = 140 := by
  unfold cut
  rw [ByteArray.size_append, ByteArray.size_extract, ByteArray.size_extract]
  omega
def endOne (l : List Int) (i : Nat) (w : S99) (S : DevS) : DevS := changeS w.f1.toNat (cut w.f2 (S.stable.getD w.f1.toNat ⟨#[]⟩) (bytesAt l i)) S
def endStep (p : S99 → Bool) (l : List Int) (st : Nat × DevS) (w : S99) : Nat × DevS := if p w = true then (st.1 + 1, endOne l st.1 w st.2) else st
def endF (p : S99 → Bool) (l : List Int) (ws : List S99) (st : Nat × DevS) : Nat × DevS := ws.foldl (endStep p l) st
def finishS (p : S99 → Bool) (l : List Int) (S : DevS) : DevS := { (endF p l S.pend (0, S)).2 with pend := S.pend.filter fun a => !p a }
theorem endF_step (p : S99 → Bool) (l : List Int) (ws : List S99) (j : Nat) (h : j < ws.length) (st : Nat × DevS) : endF p l (ws.take (j + 1)) st = endStep p l (endF p l (ws.take j) st) ws[j] := by
  unfold endF
  rw [List.take_succ_eq_append_getElem h, List.foldl_append]
  rfl
/-- What change leaves alone. -/
structure SameBut (S S' : DevS) : Prop where
  sl : S'.stable.length = S.stable.length
  pend : S'.pend = S.pend
  fences : S'.fences = S.fences
  fset : S'.fset = S.fset
  left : S'.left = S.left
  surv : S'.surv = S.surv
  failed : S'.failed = S.failed
theorem SameBut.refl (S : DevS) : SameBut S S := ⟨rfl, rfl, rfl, rfl, rfl, rfl, rfl⟩
theorem SameBut.change (n : Nat) (d : ByteArray) (S : DevS) : SameBut S (changeS n d S) := by
  unfold changeS
  split
  · exact SameBut.refl S
  · exact ⟨by simp, rfl, rfl, rfl, rfl, rfl, rfl⟩
theorem SameBut.trans {S S1 S2 : DevS} (h : SameBut S S1) (k : SameBut S1 S2) : SameBut S S2 :=
  ⟨k.sl.trans h.sl, k.pend.trans h.pend, k.fences.trans h.fences, k.fset.trans h.fset, k.left.trans h.left, k.surv.trans h.surv, k.failed.trans h.failed⟩
theorem endF_same (p : S99 → Bool) (l : List Int) : ∀ (ws : List S99) (st : Nat × DevS), SameBut st.2 (endF p l ws st).2
  | [], st => SameBut.refl _
  | w :: ws, st => by
    show SameBut st.2 (endF p l ws (endStep p l st w)).2
    refine SameBut.trans ?_ (endF_same p l ws _)
    unfold endStep
    split
    · exact SameBut.change _ _ _
    · exact SameBut.refl _
theorem getD_mem {α : Type} (xs : List α) (i : Nat) (d : α) (h : i < xs.length) : xs.getD i d ∈ xs := by
  rw [List.getD_eq_getElem?_getD, List.getElem?_eq_getElem h]
  exact List.getElem_mem h
theorem Fine.change {k : Nat} {S : DevS} (h : Fine k S) (n : Nat) (hn : n < S.stable.length) (d : ByteArray) (hd : d.size = 140) : Fine k (changeS n d S) := by
  unfold changeS
  split
  · exact h
  · refine { h with len := by simp [h.len], n0 := by simpa using h.n0, n1 := by simpa using h.n1, size := ?_, olen := ?_, osize := ?_, pend := ?_ }
    · intro s hs
      rcases List.mem_or_eq_of_mem_set hs with hs | hs
      · exact h.size s hs
      · rw [hs]; exact hd
    · intro l hl
      rcases List.mem_or_eq_of_mem_set hl with hl | hl
      · exact h.olen l hl
      · rw [hl]; exact List.length_take_le _ _
    · intro l hl s hs
      rcases List.mem_or_eq_of_mem_set hl with hl | hl
      · exact h.osize l hl s hs
      · rw [hl] at hs
        rcases List.mem_cons.1 (List.mem_of_mem_take hs) with hs | hs
        · rw [hs]; exact h.size _ (getD_mem _ _ _ hn)
        · exact h.osize _ (getD_mem _ _ _ (by rw [h.len]; exact hn)) s hs
    · intro w hw
      have := h.pend w hw
      simpa using this
theorem Fine.endStep {k : Nat} {st : Nat × DevS} (h : Fine k st.2) (p : S99 → Bool) (l : List Int) (w : S99) (hw : 0 ≤ w.f1 ∧ w.f1 < st.2.stable.length ∧ w.f2.size = 140) : Fine k (endStep p l st w).2 := by
  unfold PG.endStep
  split
  · have hn : w.f1.toNat < st.2.stable.length := by omega
    exact h.change _ hn _ (cut_size _ _ _ hw.2.2 (h.size _ (getD_mem _ _ _ hn)) (bytes_le _ _))
  · exact h
theorem Fine.endF {k : Nat} (p : S99 → Bool) (l : List Int) : ∀ (ws : List S99) (st : Nat × DevS), Fine k st.2 → (∀ w ∈ ws, 0 ≤ w.f1 ∧ w.f1 < st.2.stable.length ∧ w.f2.size = 140) → Fine k (PG.endF p l ws st).2
  | [], st, h, _ => h
  | w :: ws, st, h, hw => by
    show Fine k (PG.endF p l ws (PG.endStep p l st w)).2
    refine Fine.endF p l ws _ (h.endStep p l w (hw w List.mem_cons_self)) (fun w' hw' => ?_)
    have h1 := hw w' (List.mem_cons_of_mem _ hw')
    have h2 := (endF_same p l [w] st).sl
    have h3 : (PG.endF p l [w] st) = PG.endStep p l st w := rfl
    rw [h3] at h2
    rw [h2]
    exact h1
theorem Fine.finish {k : Nat} {S : DevS} (h : Fine k S) (p : S99 → Bool) (l : List Int) : Fine k (finishS p l S) := by
  have h1 : Fine k (PG.endF p l S.pend (0, S)).2 := Fine.endF p l S.pend (0, S) h (fun w hw => by have := h.pend w hw; exact ⟨this.2.2.1, this.2.2.2.1, this.2.2.2.2⟩)
  have h2 := endF_same p l S.pend (0, S)
  refine { h1 with pend := ?_, plen := ?_ }
  · intro w hw
    have := h.pend w (List.mem_filter.1 hw).1
    show _ ∧ _ ∧ _ ∧ w.f1 < (((PG.endF p l S.pend (0, S)).2.stable.length : Nat) : Int) ∧ _
    rw [h2.sl]
    exact this
  · show (S.pend.filter _).length ≤ k
    exact Nat.le_trans (List.length_filter_le _ _) h.plen
theorem DevAt.setPend {W W3 : World} {B : Nat} {L : Lay} {vs : List Value} {pv uv pv' : Value} {m : Ents} {F F' : Nat → Prop} {S : DevS} {ws : List S99} (h : DevAt W B L vs pv uv m F S) (hk : Kept W W3 (fun k => some k = pv.ownBlock))
    (hp : Kd.R k99 84 W3 B F' pv' ws) (hF : ∀ k, F k → F' k) (hF' : ∀ k, F' k → F k ∨ (W.heap.size ≤ k ∧ k < W3.heap.size)) (ho : pv'.ownBlock = pv.ownBlock ∨ ∀ k, pv'.ownBlock = some k → W.heap.size ≤ k) :
    DevAt (W3.setCell ⟨L.g, 2, none⟩ pv') B L vs pv' uv m F' { S with pend := ws } := by
  have hpo : ∀ k, pv.ownBlock = some k → ∃ cells, W.heap[k]? = some (.cells cells 84 (0, 0)) := fun k hk => by
    obtain ⟨inner, ho⟩ := Kd.R_own h.hp
    exact own_typed ho k hk
  have hpo' : ∀ k, pv'.ownBlock = some k → ∃ cells, W3.heap[k]? = some (.cells cells 84 (0, 0)) := fun k hk => by
    obtain ⟨inner, ho⟩ := Kd.R_own hp
    exact own_typed ho k hk
  have hne : ∀ {k : Nat} {t : TypeId} {cs : Array Value}, W.heap[k]? = some (.cells cs t (0, 0)) → t ≠ 84 → ¬ some k = pv.ownBlock := fun hb ht e => by
    obtain ⟨cells, hc⟩ := hpo _ e.symm
    exact blk_ne hb hc ht rfl
  have hgo : L.g ≠ L.ob := blk_ne h.hg h.ho (by decide)
  have hgs : L.g ≠ L.sb := blk_ne h.hg h.hs (by decide)
  have hgm : L.g ≠ L.bm := h.hm.ne h.hg
  have hmn : ¬ some L.bm = pv.ownBlock := fun e => by
    obtain ⟨cells, hc⟩ := hpo _ e.symm
    exact h.hm.ne hc rfl
  have hg3 : W3.heap[L.g]? = some (.cells (gcells L pv uv S) 81 (0, 0)) := blk_kept h.hg hk (hne h.hg (by decide))
  have hfar : ∀ k, k ≠ L.g → (W3.setCell ⟨L.g, 2, none⟩ pv').heap[k]? = W3.heap[k]? := fun k hk => Below.heap_setCell _ _ _ _ hk
  have hsz : (W3.setCell ⟨L.g, 2, none⟩ pv').heap.size = W3.heap.size := by simp [World.setCell]
  have hs3 := hk.1
  have hfr : ∀ {α : Type} {d : Kd α} {e : Nat} {v : Value} {xs : List α}, Kd.V d e W 0 (Fr L pv F) v xs → Kd.V d e (W3.setCell ⟨L.g, 2, none⟩ pv') 0 (Fr L pv' F') v xs := fun hv => by
    have h1 := Kd.V_kept (Kd.V_bound hv) hk (fun k hk e => hk.1.2 (Or.inr (Or.inr (Or.inr (Or.inr e)))))
    refine Kd.V_mono (Kd.V_step h1 (fun k hk _ => hfar k (fun e => hk.1.2 (Or.inl e)))) (fun k hk => ⟨hF k hk.1.1, fun hm => ?_⟩)
    rcases hm with e | e | e | e | e
    · exact hk.1.2 (Or.inl e)
    · exact hk.1.2 (Or.inr (Or.inl e))
    · exact hk.1.2 (Or.inr (Or.inr (Or.inl e)))
    · exact hk.1.2 (Or.inr (Or.inr (Or.inr (Or.inl e))))
    · rcases ho with ho | ho
      · rw [ho] at e; exact hk.1.2 (Or.inr (Or.inr (Or.inr (Or.inr e))))
      · have := ho k e.symm; have := hk.2; omega
  exact
    { hg := blk_put hg3 2 pv' (by rfl)
      hs := (hfar _ (fun e => hgs e.symm)).trans (blk_kept h.hs hk (hne h.hs (by decide)))
      ho := (hfar _ (fun e => hgo e.symm)).trans (blk_kept h.ho hk (hne h.ho (by decide)))
      hvl := h.hvl
      hv := fun i v x h1 h2 => hfr (h.hv i v x h1 h2)
      hp := Kd.R_mono (Kd.R_step (Kd.R_tight2 rfl hp) (fun k hk _ => hfar k (fun e => by obtain ⟨cells, hc⟩ := hpo' k hk.1.symm; rw [e, hg3] at hc; cases hc))) (fun k hk => hk.2)
      hm := (h.hm.move (hk.2 _ h.hm.lt hmn)).move (hfar _ (fun e => hgm e.symm))
      hl := h.hl
      hu := hfr h.hu
      hF := ⟨hF _ h.hF.1, hF _ h.hF.2.1, hF _ h.hF.2.2.1, hF _ h.hF.2.2.2⟩
      hr := fun k hk => by
        have h1 := h.hr _ h.hF.1
        rcases hF' k hk with hk | hk
        · have := h.hr k hk; exact ⟨this.1, by rw [hsz]; omega⟩
        · exact ⟨by omega, by rw [hsz]; exact hk.2⟩ }
/-- The step's number of bytes, as the walk reckons it. -/
inductive Bytes (l : List Int) (i : Nat) : Int → Prop where
  | none (h : l.length ≤ i) (e : bytesAt l i = 0) : Bytes l i 0
  | low (h : i < l.length) (h1 : l[i] ≤ 0) (e : bytesAt l i = 0) : Bytes l i 0
  | mid (h : i < l.length) (h1 : 0 < l[i]) (h2 : l[i] ≤ 140) (e : (bytesAt l i : Int) = l[i]) : Bytes l i l[i]
  | high (h : i < l.length) (h1 : 140 < l[i]) (e : bytesAt l i = 140) : Bytes l i 140
theorem rd_at (l : List Int) (i : Nat) (h : i < l.length) : rd l (i : Int) = l[i] := by
  unfold rd
  rw [Int.toNat_natCast, List.getD_eq_getElem?_getD, List.getElem?_eq_getElem h]
  rfl
set_option maxHeartbeats 4000000 in
set_option maxRecDepth 100000 in
theorem finish_calls {W : World} {B : Nat} {L : Lay} {vs : List Value} {pv uv : Value} {m : Ents} {F : Nat → Prop} {S : DevS} {k : Nat} (hP : DevAt W B L vs pv uv m F S) (hf : Fine k S) (hk : k ≤ 1000000) (f : FuncId) (caps : Array Value) (p : S99 → Bool)
    (hp : MatchOk W (Mut L pv) f caps p) (A : Option Addr) (c : Nat) (l : List Int) (hl : Kd.F (Kd.int .i64) W (fun k => ¬ Mut L pv k) A l.length l) (hlc : l.length ≤ c) (hlm : l.length ≤ 4611686018427387904) :
    Calls Try.prog 51 #[.pointer (some ⟨L.g, 0, none⟩), .func (.func f) #[] caps, .slice A l.length c] W fun e W' => e = .returned (.tuple #[]) ∧ DevPost B L F (finishS p l S) W W' := by
  have c2 := hP.c2
  have lg := hP.lg
  obtain ⟨A2, cc, hpv, hpc, hC⟩ := hP.pslice
  have hpl := hf.plen
  have hFS := hf.pend
  have HP := Aside0.mk hP
  have HF := Aside0.mk hf
  have HM := Aside0.mk hp
  have EG := hp.eg
  have HL := Aside0.mk hl
  have HFS := Aside0.mk hFS
  subst hpv
  clear hP hf hp hl hC hFS
  go_enter Try.func51, Try.ntmps51
  go_wp2_with fail
  go_loopg [6, 15] S.pend.length (fun gg s6 s15 wr => ∃ (j i : Nat) (vs' : List Value) (F' : Nat → Prop) (S' : DevS), s15 = .int .i64 j ∧ s6 = .int .i64 i ∧ j ≤ S.pend.length ∧ S.pend.length - j ≤ gg ∧ i ≤ j ∧ Aside0 (DevAt wr B L vs' (.slice A2 S.pend.length cc) uv m F' S') ∧ Aside0 (Fine k S') ∧ Aside0 (endF p l (S.pend.take j) (0, S) = (i, S')) ∧ Aside0 (∀ k, F' k → F k ∨ W.heap.size ≤ k) ∧ Aside0 (Kept W wr (fun k => k = L.sb ∨ k = L.ob)) ∧ Aside0 (Below B W wr))
  case atStart => exact ⟨0, 0, vs, F, S, by go_num, by go_num, Nat.zero_le _, by omega, Nat.le_refl _, HP, HF, ⟨rfl⟩, ⟨fun k z => Or.inl z⟩, ⟨Kept.refl _ _⟩, ⟨Below.refl _ _⟩⟩
  case round =>
    obtain ⟨j, i, vs', F', S', rfl, rfl, hj, hgg, hij, HPR, HFR, HE, HFF, HKR, HBR⟩ := hrel
    have hsame := endF_same p l (S.pend.take j) (0, S)
    rw [HE.out] at hsame
    have hkm : Kept W wr (Mut L (.slice A2 S.pend.length cc)) := HKR.out.mono (fun k z => z.elim (fun z => Or.inr (Or.inl z)) (fun z => Or.inr (Or.inr (Or.inl z))))
    have HKM := Aside0.mk hkm
    have HSA := Aside0.mk hsame
    clear hsame hkm
    by_cases hlt : j < S.pend.length
    · have hltz : (j : Int) < (S.pend.length : Int) := by omega
      have hC1 := (Kd.R_reads' HPR.out.hp).2.2
      rw [HSA.out.pend] at hC1
      obtain ⟨ad, e, h0, h1, h2⟩ := at_T99 hC1 (j : Int) (by omega) hltz
      rw [rdT99_at _ j hlt] at h0 h1 h2
      cases e
      have hst := endF_step p l S.pend j hlt (0, S)
      rw [HE.out] at hst
      have hfa := HFS.out _ (List.getElem_mem hlt)
      obtain ⟨a, ha⟩ : ∃ a, a = S.pend[j] := ⟨_, rfl⟩
      rw [← ha] at h0 h1 h2 hst hfa
      obtain ⟨q, hq1⟩ := Int.eq_ofNat_of_zero_le hfa.2.2.1
      have hcall := HM.out.say a (wr.alloc (.cells #[.int .i64 a.f0, .int .i64 a.f1, .string a.f2] 84)) (HKM.out.alloc _)
      unfold encW at hcall
      have HCALL := Aside0.mk hcall
      have HST := Aside0.mk hst
      have HFA := Aside0.mk hfa
      have HQ1 := Aside0.mk hq1
      have hB : B ≤ wr.heap.size := by have := HPR.out.hr _ HPR.out.hF.1; omega
      clear hcall hst ha hfa hq1 hC1
      rw [Int.toNat_natCast] at h0 h1 h2
      have nb := blk_new wr (.cells #[.int .i64 a.f0, .int .i64 a.f1, .string a.f2] 84)
      have NB := Aside0.mk nb
      clear nb
      cases hq : p a with
      | false =>
        rw [hq] at HCALL
        have HQ := Aside0.mk hq
        clear hq
        go_wp2_with fail
        refine HCALL.out.mono ?_
        rintro e W2 ⟨rfl, hf⟩
        have HF1 := Aside0.mk (below_step (below_alloc (Below.refl wr.heap.size wr) (.cells #[.int .i64 a.f0, .int .i64 a.f1, .string a.f2] 84)) hf)
        clear hf HCALL
        go_wp2_with fail
        go_roundg (S.pend.length - (j + 1))
        case measure => omega
        case rel =>
          refine ⟨j + 1, i, vs', F', S', by go_num, rfl, by omega, Nat.le_refl _, by omega, ⟨HPR.out.below HF1.out⟩, HFR, ⟨?_⟩, HFF, ⟨HKR.out.below HF1.out⟩, ⟨HBR.out.trans (HF1.out.mono hB)⟩⟩
          rw [HST.out]
          unfold endStep
          rw [if_neg (by rw [HQ.out]; simp)]
      | true =>
        rw [hq] at HCALL
        have HQ := Aside0.mk hq
        clear hq
        go_wp2_with fail
        refine HCALL.out.mono ?_
        rintro e W2 ⟨rfl, hf⟩
        have hf1 := below_step (below_alloc (Below.refl wr.heap.size wr) (.cells #[.int .i64 a.f0, .int .i64 a.f1, .string a.f2] 84)) hf
        have HF1 := Aside0.mk hf1
        have hnew := blk_below NB.out hf
        have n1 : W2.cell? ⟨wr.heap.size, 1, none⟩ = some (.int .i64 a.f1) := by rw [blk_cell hnew]; rfl
        have n2 : W2.cell? ⟨wr.heap.size, 2, none⟩ = some (.string a.f2) := by rw [blk_cell hnew]; rfl
        rw [HQ1.out] at n1
        have hP2 := HPR.out.below hf1
        have hqn : q < S'.stable.length := by have := HFA.out; have h1 := HQ1.out; have h3 : S'.stable.length = S.stable.length := HSA.out.sl; omega
        have k0 := hP2.c0
        have ks := hP2.cs q hqn
        have hqz : (q : Int) < (S'.stable.length : Int) := by omega
        have hy1 : S'.stable.getD q ⟨#[]⟩ = S'.stable[q] := by rw [List.getD_eq_getElem?_getD, List.getElem?_eq_getElem hqn]; rfl
        have hy2 : S'.stable[q].size = 140 := HFR.out.size _ (List.getElem_mem _)
        obtain ⟨y, hy⟩ : ∃ y, y = S'.stable[q] := ⟨_, rfl⟩
        rw [← hy] at ks hy1 hy2
        have ha2 : a.f2.size = 140 := HFA.out.2.2.2.2
        have hcl := (Kd.F_kept HL.out (HKM.out.below hf1) (fun k z => z))
        have hci := Kd.F_now hcl
        have hend : ∀ b, b = bytesAt l i → endF p l (S.pend.take (j + 1)) (0, S) = (i + 1, changeS q (a.f2.extract 0 b ++ y.extract b y.size) S') := by
          rintro b rfl
          rw [HST.out]
          unfold endStep
          rw [if_pos HQ.out]
          unfold endOne cut
          rw [HQ1.out, Int.toNat_natCast, hy1]
        have hfine : ∀ b, b ≤ 140 → Fine k (changeS q (a.f2.extract 0 b ++ y.extract b y.size) S') := fun b hb => HFR.out.change q hqn _ (by
          rw [ByteArray.size_append, ByteArray.size_extract, ByteArray.size_extract]; omega)
        have hch : ∀ b, b ≤ 140 → Calls Try.prog 60 #[.pointer (some ⟨L.g, 0, none⟩), .int .i64 q, .string (a.f2.extract 0 b ++ y.extract b y.size)] W2.drew fun e W' => e = .returned (.tuple #[]) ∧ ChPost B L (.slice (some ad) S.pend.length cc) uv m F' (changeS q (a.f2.extract 0 b ++ y.extract b y.size) S') W2.drew W' := fun b _ =>
          change_calls (W := W2.drew) (hP2.move (W' := W2.drew) (fun _ _ => rfl) (Nat.le_refl _)) HFR.out.len HFR.out.olen q hqn (a.f2.extract 0 b ++ y.extract b y.size)
        have HEND := Aside0.mk hend
        have HFINE := Aside0.mk hfine
        have HCHG := Aside0.mk hch
        have s1 : (a.f2.size : Int) ≤ 140 := by omega
        have s2 : (140 : Int) ≤ (a.f2.size : Int) := by omega
        have s3 : (y.size : Int) ≤ 140 := by omega
        have s4 : (140 : Int) ≤ (y.size : Int) := by omega
        have s5 : ¬ 9223372036854775807 < y.size := by omega
        clear hf hf1 hnew hP2 hy1 hy2 hy ha2 hcl hend hfine hch HCALL HM HL hqn
        rcases Nat.lt_or_ge i l.length with hil | hil
        · have hilz : (i : Int) < (l.length : Int) := by omega
          obtain ⟨ad2, e2, kq⟩ := Kd.at_int hci (i : Int) (by omega) hilz
          rw [rd_at l i hil] at kq
          have hbv : bytesAt l i = (min (max 0 l[i]) 140).toNat := by unfold bytesAt; rw [List.getElem?_eq_getElem hil]
          obtain ⟨x, hx⟩ : ∃ x, x = l[i] := ⟨_, rfl⟩
          rw [← hx] at kq hbv
          rw [Int.toNat_natCast] at kq
          subst e2
          clear hx hil hci
          by_cases hx0 : 0 < x
          · by_cases hx1 : 140 < x
            · have HEC := Aside0.mk (HEND.out 140 (by rw [hbv]; omega))
              have HFC := Aside0.mk (HFINE.out 140 (Nat.le_refl _))
              have s6 : ¬ 9223372036854775807 < min 140 a.f2.size + (y.size - 140) := by omega
              have s7 : 140 ≤ a.f2.size := by omega
              have s8 : 140 ≤ y.size := by omega
              have HCH := Aside0.mk (HCHG.out 140 (Nat.le_refl _))
              clear hbv HEND HFINE HCHG
              go_wp2_with fail
              refine start_ (n := 19) (S := fun w' => w'.cell? ⟨wr.heap.size, 1, none⟩ = some (.int .i64 q) ∧ w'.cell? ⟨wr.heap.size, 2, none⟩ = some (.string a.f2) ∧ w'.cell? ⟨L.g, 0, none⟩ = some (.slice (some ⟨L.sb, 0, none⟩) S'.stable.length S'.stable.length) ∧ w'.cell? ⟨L.sb, q, none⟩ = some (.string y)) (ds := [18]) #[false, false, false, false, false, false, false, false, false, false, false, false, false, false, false, false, false, false, false] (by kernel_rfl) rfl rfl ⟨n1, n2, k0, ks⟩ (fun hHeld => ?_)
              refine pure_ (i := 0) (N := some 35) (v := ?_) (a' := ?_) #[true, false, false, false, false, false, false, false, false, false, false, false, false, false, false, false, false, false, false] rfl rfl (by kernel_rfl) (fun _ _ _ h => h) (Or.inl ⟨by rfl, ?_⟩) ?_ ?_
              rotate_left
              · intro w'
                go_simp
                with_reducible rfl
              rotate_left
              · simp only [Act.put, List.setIfInBounds_toArray, List.set_cons_zero, List.set_cons_succ, i64_w, i32_w]
                rfl
              refine pure_ (i := 1) (N := some 36) (v := ?_) (a' := ?_) #[true, true, false, false, false, false, false, false, false, false, false, false, false, false, false, false, false, false, false] rfl rfl (by kernel_rfl) (fun _ _ _ h => h) (Or.inl ⟨by rfl, ?_⟩) ?_ ?_
              rotate_left
              · intro w'
                go_simp
                with_reducible rfl
              rotate_left
              · simp only [Act.put, List.setIfInBounds_toArray, List.set_cons_zero, List.set_cons_succ, i64_w, i32_w]
                rfl
              refine pure_ (i := 3) (N := some 38) (v := ?_) (a' := ?_) #[true, true, false, true, false, false, false, false, false, false, false, false, false, false, false, false, false, false, false] rfl rfl (by kernel_rfl) (fun _ _ _ h => h) (Or.inl ⟨by rfl, ?_⟩) ?_ ?_
              rotate_left
              · intro w'
                go_simp
                with_reducible rfl
              rotate_left
              · simp only [Act.put, List.setIfInBounds_toArray, List.set_cons_zero, List.set_cons_succ, i64_w, i32_w]
                rfl
              refine pure_ (i := 5) (N := some 40) (v := ?_) (a' := ?_) #[true, true, false, true, false, true, false, false, false, false, false, false, false, false, false, false, false, false, false] rfl rfl (by kernel_rfl) (fun _ _ _ h => h) (Or.inl ⟨by rfl, ?_⟩) ?_ ?_
              rotate_left
              · intro w'
                go_simp
                with_reducible rfl
              rotate_left
              · simp only [Act.put, List.setIfInBounds_toArray, List.set_cons_zero, List.set_cons_succ, i64_w, i32_w]
                rfl
              refine pure_ (i := 7) (N := some 42) (v := ?_) (a' := ?_) #[true, true, false, true, false, true, false, true, false, false, false, false, false, false, false, false, false, false, false] rfl rfl (by kernel_rfl) (fun _ _ _ h => h) (Or.inl ⟨by rfl, ?_⟩) ?_ ?_
              rotate_left
              · intro w'
                go_simp
                with_reducible rfl
              rotate_left
              · simp only [Act.put, List.setIfInBounds_toArray, List.set_cons_zero, List.set_cons_succ, i64_w, i32_w]
                rfl
              refine pure_ (i := 8) (N := some 43) (v := ?_) (a' := ?_) #[true, true, false, true, false, true, false, true, true, false, false, false, false, false, false, false, false, false, false] rfl rfl (by kernel_rfl) (fun _ _ _ h => h) (Or.inl ⟨by rfl, ?_⟩) ?_ ?_
              rotate_left
              · intro w'
                go_simp
                with_reducible rfl
              rotate_left
              · simp only [Act.put, List.setIfInBounds_toArray, List.set_cons_zero, List.set_cons_succ, i64_w, i32_w]
                rfl
              refine pure_ (i := 9) (N := some 44) (v := ?_) (a' := ?_) #[true, true, false, true, false, true, false, true, true, true, false, false, false, false, false, false, false, false, false] rfl rfl (by kernel_rfl) (fun _ _ _ h => h) (Or.inl ⟨by rfl, ?_⟩) ?_ ?_
              rotate_left
              · intro w'
                go_simp
                with_reducible rfl
              rotate_left
              · simp only [Act.put, List.setIfInBounds_toArray, List.set_cons_zero, List.set_cons_succ, i64_w, i32_w]
                rfl
              refine pure_ (i := 11) (N := some 46) (v := ?_) (a' := ?_) #[true, true, false, true, false, true, false, true, true, true, false, true, false, false, false, false, false, false, false] rfl rfl (by kernel_rfl) (fun _ _ _ h => h) (Or.inl ⟨by rfl, ?_⟩) ?_ ?_
              rotate_left
              · intro w'
                go_simp
                with_reducible rfl
              rotate_left
              · simp only [Act.put, List.setIfInBounds_toArray, List.set_cons_zero, List.set_cons_succ, i64_w, i32_w]
                rfl
              refine pure_ (i := 15) (N := some 50) (v := ?_) (a' := ?_) #[true, true, false, true, false, true, false, true, true, true, false, true, false, false, false, true, false, false, false] rfl rfl (by kernel_rfl) (fun _ _ _ h => h) (Or.inl ⟨by rfl, ?_⟩) ?_ ?_
              rotate_left
              · intro w'
                go_simp
                with_reducible rfl
              rotate_left
              · simp only [Act.put, List.setIfInBounds_toArray, List.set_cons_zero, List.set_cons_succ, i64_w, i32_w]
                rfl
              refine take_ (i := 2) (N := some 37) (v := ?_) (a' := ?_) #[true, true, true, true, false, true, false, true, true, true, false, true, false, false, false, true, false, false, false] rfl rfl (by kernel_rfl) (fun _ _ _ h => h) (Or.inl ⟨by rfl, ?_⟩) hHeld ?_ ?_
              rotate_left
              · rintro w' ⟨s0, s1, s2, s3⟩
                go_simp
                with_reducible rfl
              rotate_left
              · simp only [Act.put, List.setIfInBounds_toArray, List.set_cons_zero, List.set_cons_succ, i64_w, i32_w]
                rfl
              refine take_ (i := 4) (N := some 39) (v := ?_) (a' := ?_) #[true, true, true, true, true, true, false, true, true, true, false, true, false, false, false, true, false, false, false] rfl rfl (by kernel_rfl) (fun _ _ _ h => h) (Or.inl ⟨by rfl, ?_⟩) hHeld ?_ ?_
              rotate_left
              · rintro w' ⟨s0, s1, s2, s3⟩
                go_simp
                with_reducible rfl
              rotate_left
              · simp only [Act.put, List.setIfInBounds_toArray, List.set_cons_zero, List.set_cons_succ, i64_w, i32_w]
                rfl
              refine pure_ (i := 6) (N := some 41) (v := ?_) (a' := ?_) #[true, true, true, true, true, true, true, true, true, true, false, true, false, false, false, true, false, false, false] rfl rfl (by kernel_rfl) (fun _ _ _ h => h) (Or.inl ⟨by rfl, ?_⟩) ?_ ?_
              rotate_left
              · intro w'
                go_simp
                with_reducible rfl
              rotate_left
              · simp only [Act.put, List.setIfInBounds_toArray, List.set_cons_zero, List.set_cons_succ, i64_w, i32_w]
                rfl
              refine take_ (i := 10) (N := some 45) (v := ?_) (a' := ?_) #[true, true, true, true, true, true, true, true, true, true, true, true, false, false, false, true, false, false, false] rfl rfl (by kernel_rfl) (fun _ _ _ h => h) (Or.inl ⟨by rfl, ?_⟩) hHeld ?_ ?_
              rotate_left
              · rintro w' ⟨s0, s1, s2, s3⟩
                go_simp
                with_reducible rfl
              rotate_left
              · simp only [Act.put, List.setIfInBounds_toArray, List.set_cons_zero, List.set_cons_succ, i64_w, i32_w]
                rfl
              refine take_ (i := 12) (N := some 47) (v := ?_) (a' := ?_) #[true, true, true, true, true, true, true, true, true, true, true, true, true, false, false, true, false, false, false] rfl rfl (by kernel_rfl) (fun _ _ _ h => h) (Or.inl ⟨by rfl, ?_⟩) hHeld ?_ ?_
              rotate_left
              · rintro w' ⟨s0, s1, s2, s3⟩
                go_simp
                with_reducible rfl
              rotate_left
              · simp only [Act.put, List.setIfInBounds_toArray, List.set_cons_zero, List.set_cons_succ, i64_w, i32_w]
                rfl
              refine pure_ (i := 13) (N := some 48) (v := ?_) (a' := ?_) #[true, true, true, true, true, true, true, true, true, true, true, true, true, true, false, true, false, false, false] rfl rfl (by kernel_rfl) (fun _ _ _ h => h) (Or.inl ⟨by rfl, ?_⟩) ?_ ?_
              rotate_left
              · intro w'
                go_simp
                with_reducible rfl
              rotate_left
              · simp only [Act.put, List.setIfInBounds_toArray, List.set_cons_zero, List.set_cons_succ, i64_w, i32_w]
                rfl
              refine take_ (i := 14) (N := some 49) (v := ?_) (a' := ?_) #[true, true, true, true, true, true, true, true, true, true, true, true, true, true, true, true, false, false, false] rfl rfl (by kernel_rfl) (fun _ _ _ h => h) (Or.inl ⟨by rfl, ?_⟩) hHeld ?_ ?_
              rotate_left
              · rintro w' ⟨s0, s1, s2, s3⟩
                go_simp
                with_reducible rfl
              rotate_left
              · simp only [Act.put, List.setIfInBounds_toArray, List.set_cons_zero, List.set_cons_succ, i64_w, i32_w]
                rfl
              refine pure_ (i := 16) (N := some 51) (v := ?_) (a' := ?_) #[true, true, true, true, true, true, true, true, true, true, true, true, true, true, true, true, true, false, false] rfl rfl (by kernel_rfl) (fun _ _ _ h => h) (Or.inl ⟨by rfl, ?_⟩) ?_ ?_
              rotate_left
              · intro w'
                go_simp
                with_reducible rfl
              rotate_left
              · simp only [Act.put, List.setIfInBounds_toArray, List.set_cons_zero, List.set_cons_succ, i64_w, i32_w]
                rfl
              refine pure_ (i := 17) (N := some 52) (v := ?_) (a' := ?_) #[true, true, true, true, true, true, true, true, true, true, true, true, true, true, true, true, true, true, false] rfl rfl (by kernel_rfl) (fun _ _ _ h => h) (Or.inl ⟨by rfl, ?_⟩) ?_ ?_
              rotate_left
              · intro w'
                go_simp
                with_reducible rfl
              rotate_left
              · simp only [Act.put, List.setIfInBounds_toArray, List.set_cons_zero, List.set_cons_succ, i64_w, i32_w]
                rfl
              refine last_ (i := 18) (N := some 53) #[true, true, true, true, true, true, true, true, true, true, true, true, true, true, true, true, true, true, true] rfl rfl (by kernel_rfl) (by decide) (fun K hK => ?_)
              refine goes_ Try.func60 (by kernel_rfl) rfl #[.pointer (some ⟨L.g, 0, none⟩), .int .i64 q, .string (a.f2.extract 0 140 ++ y.extract 140 y.size)] (by rfl) rfl rfl (by simp only [List.map_toArray, List.map_cons, List.map_nil]; rfl) ?_
              with_reducible refine (HCH.out).mono ?_
              rintro e w3 ⟨rfl, hch⟩
              refine ⟨_, rfl, ?_⟩
              have HCH3 := Aside0.mk hch
              clear hch HCH
              refine hK.out _ _ ?_
              clear hK K
              refine norm_ (a' := ?_) ?_ ?_
              rotate_left
              · show Act.put _ (some 53) _ = _
                simp only [Act.put, List.setIfInBounds_toArray, List.set_cons_zero, List.set_cons_succ, i64_w, i32_w]
                rfl
              refine done_ (by kernel_rfl) ?_
              go_wp2_with fail
              go_roundg (S.pend.length - (j + 1))
              case measure => omega
              case rel =>
                obtain ⟨vs3, F3, g1, g2, g3, g4⟩ := HCH3.out
                exact ⟨j + 1, i + 1, vs3, F3, changeS q (a.f2.extract 0 140 ++ y.extract 140 y.size) S', by go_num, by go_num, by omega, Nat.le_refl _, by omega, ⟨g1⟩, ⟨HFC.out⟩, ⟨HEC.out⟩, ⟨fun k z => (g2 k z).elim (fun z => HFF.out k z) (fun z => Or.inr (by have := HKR.out.1; have := HF1.out.size; simp at z; omega))⟩, ⟨(HKR.out.below HF1.out).then_ g3 (fun _ z => Or.inl z)⟩, ⟨(HBR.out.trans (HF1.out.drew.mono hB)).trans g4⟩⟩
            · obtain ⟨b, rfl⟩ := Int.eq_ofNat_of_zero_le (show 0 ≤ x by omega)
              have HEC := Aside0.mk (HEND.out b (by rw [hbv]; omega))
              have HFC := Aside0.mk (HFINE.out b (by omega))
              have s6 : ¬ 9223372036854775807 < min b a.f2.size + (y.size - b) := by omega
              have s7 : b ≤ a.f2.size := by omega
              have s8 : b ≤ y.size := by omega
              have HCH := Aside0.mk (HCHG.out b (by omega))
              clear hbv HEND HFINE HCHG
              go_wp2_with fail
              refine start_ (n := 19) (S := fun w' => w'.cell? ⟨wr.heap.size, 1, none⟩ = some (.int .i64 q) ∧ w'.cell? ⟨wr.heap.size, 2, none⟩ = some (.string a.f2) ∧ w'.cell? ⟨L.g, 0, none⟩ = some (.slice (some ⟨L.sb, 0, none⟩) S'.stable.length S'.stable.length) ∧ w'.cell? ⟨L.sb, q, none⟩ = some (.string y)) (ds := [18]) #[false, false, false, false, false, false, false, false, false, false, false, false, false, false, false, false, false, false, false] (by kernel_rfl) rfl rfl ⟨n1, n2, k0, ks⟩ (fun hHeld => ?_)
              refine pure_ (i := 0) (N := some 35) (v := ?_) (a' := ?_) #[true, false, false, false, false, false, false, false, false, false, false, false, false, false, false, false, false, false, false] rfl rfl (by kernel_rfl) (fun _ _ _ h => h) (Or.inl ⟨by rfl, ?_⟩) ?_ ?_
              rotate_left
              · intro w'
                go_simp
                with_reducible rfl
              rotate_left
              · simp only [Act.put, List.setIfInBounds_toArray, List.set_cons_zero, List.set_cons_succ, i64_w, i32_w]
                rfl
              refine pure_ (i := 1) (N := some 36) (v := ?_) (a' := ?_) #[true, true, false, false, false, false, false, false, false, false, false, false, false, false, false, false, false, false, false] rfl rfl (by kernel_rfl) (fun _ _ _ h => h) (Or.inl ⟨by rfl, ?_⟩) ?_ ?_
              rotate_left
              · intro w'
                go_simp
                with_reducible rfl
              rotate_left
              · simp only [Act.put, List.setIfInBounds_toArray, List.set_cons_zero, List.set_cons_succ, i64_w, i32_w]
                rfl
              refine pure_ (i := 3) (N := some 38) (v := ?_) (a' := ?_) #[true, true, false, true, false, false, false, false, false, false, false, false, false, false, false, false, false, false, false] rfl rfl (by kernel_rfl) (fun _ _ _ h => h) (Or.inl ⟨by rfl, ?_⟩) ?_ ?_
              rotate_left
              · intro w'
                go_simp
                with_reducible rfl
              rotate_left
              · simp only [Act.put, List.setIfInBounds_toArray, List.set_cons_zero, List.set_cons_succ, i64_w, i32_w]
                rfl
              refine pure_ (i := 5) (N := some 40) (v := ?_) (a' := ?_) #[true, true, false, true, false, true, false, false, false, false, false, false, false, false, false, false, false, false, false] rfl rfl (by kernel_rfl) (fun _ _ _ h => h) (Or.inl ⟨by rfl, ?_⟩) ?_ ?_
              rotate_left
              · intro w'
                go_simp
                with_reducible rfl
              rotate_left
              · simp only [Act.put, List.setIfInBounds_toArray, List.set_cons_zero, List.set_cons_succ, i64_w, i32_w]
                rfl
              refine pure_ (i := 7) (N := some 42) (v := ?_) (a' := ?_) #[true, true, false, true, false, true, false, true, false, false, false, false, false, false, false, false, false, false, false] rfl rfl (by kernel_rfl) (fun _ _ _ h => h) (Or.inl ⟨by rfl, ?_⟩) ?_ ?_
              rotate_left
              · intro w'
                go_simp
                with_reducible rfl
              rotate_left
              · simp only [Act.put, List.setIfInBounds_toArray, List.set_cons_zero, List.set_cons_succ, i64_w, i32_w]
                rfl
              refine pure_ (i := 8) (N := some 43) (v := ?_) (a' := ?_) #[true, true, false, true, false, true, false, true, true, false, false, false, false, false, false, false, false, false, false] rfl rfl (by kernel_rfl) (fun _ _ _ h => h) (Or.inl ⟨by rfl, ?_⟩) ?_ ?_
              rotate_left
              · intro w'
                go_simp
                with_reducible rfl
              rotate_left
              · simp only [Act.put, List.setIfInBounds_toArray, List.set_cons_zero, List.set_cons_succ, i64_w, i32_w]
                rfl
              refine pure_ (i := 9) (N := some 44) (v := ?_) (a' := ?_) #[true, true, false, true, false, true, false, true, true, true, false, false, false, false, false, false, false, false, false] rfl rfl (by kernel_rfl) (fun _ _ _ h => h) (Or.inl ⟨by rfl, ?_⟩) ?_ ?_
              rotate_left
              · intro w'
                go_simp
                with_reducible rfl
              rotate_left
              · simp only [Act.put, List.setIfInBounds_toArray, List.set_cons_zero, List.set_cons_succ, i64_w, i32_w]
                rfl
              refine pure_ (i := 11) (N := some 46) (v := ?_) (a' := ?_) #[true, true, false, true, false, true, false, true, true, true, false, true, false, false, false, false, false, false, false] rfl rfl (by kernel_rfl) (fun _ _ _ h => h) (Or.inl ⟨by rfl, ?_⟩) ?_ ?_
              rotate_left
              · intro w'
                go_simp
                with_reducible rfl
              rotate_left
              · simp only [Act.put, List.setIfInBounds_toArray, List.set_cons_zero, List.set_cons_succ, i64_w, i32_w]
                rfl
              refine pure_ (i := 15) (N := some 50) (v := ?_) (a' := ?_) #[true, true, false, true, false, true, false, true, true, true, false, true, false, false, false, true, false, false, false] rfl rfl (by kernel_rfl) (fun _ _ _ h => h) (Or.inl ⟨by rfl, ?_⟩) ?_ ?_
              rotate_left
              · intro w'
                go_simp
                with_reducible rfl
              rotate_left
              · simp only [Act.put, List.setIfInBounds_toArray, List.set_cons_zero, List.set_cons_succ, i64_w, i32_w]
                rfl
              refine take_ (i := 2) (N := some 37) (v := ?_) (a' := ?_) #[true, true, true, true, false, true, false, true, true, true, false, true, false, false, false, true, false, false, false] rfl rfl (by kernel_rfl) (fun _ _ _ h => h) (Or.inl ⟨by rfl, ?_⟩) hHeld ?_ ?_
              rotate_left
              · rintro w' ⟨s0, s1, s2, s3⟩
                go_simp
                with_reducible rfl
              rotate_left
              · simp only [Act.put, List.setIfInBounds_toArray, List.set_cons_zero, List.set_cons_succ, i64_w, i32_w]
                rfl
              refine take_ (i := 4) (N := some 39) (v := ?_) (a' := ?_) #[true, true, true, true, true, true, false, true, true, true, false, true, false, false, false, true, false, false, false] rfl rfl (by kernel_rfl) (fun _ _ _ h => h) (Or.inl ⟨by rfl, ?_⟩) hHeld ?_ ?_
              rotate_left
              · rintro w' ⟨s0, s1, s2, s3⟩
                go_simp
                with_reducible rfl
              rotate_left
              · simp only [Act.put, List.setIfInBounds_toArray, List.set_cons_zero, List.set_cons_succ, i64_w, i32_w]
                rfl
              refine pure_ (i := 6) (N := some 41) (v := ?_) (a' := ?_) #[true, true, true, true, true, true, true, true, true, true, false, true, false, false, false, true, false, false, false] rfl rfl (by kernel_rfl) (fun _ _ _ h => h) (Or.inl ⟨by rfl, ?_⟩) ?_ ?_
              rotate_left
              · intro w'
                go_simp
                with_reducible rfl
              rotate_left
              · simp only [Act.put, List.setIfInBounds_toArray, List.set_cons_zero, List.set_cons_succ, i64_w, i32_w]
                rfl
              refine take_ (i := 10) (N := some 45) (v := ?_) (a' := ?_) #[true, true, true, true, true, true, true, true, true, true, true, true, false, false, false, true, false, false, false] rfl rfl (by kernel_rfl) (fun _ _ _ h => h) (Or.inl ⟨by rfl, ?_⟩) hHeld ?_ ?_
              rotate_left
              · rintro w' ⟨s0, s1, s2, s3⟩
                go_simp
                with_reducible rfl
              rotate_left
              · simp only [Act.put, List.setIfInBounds_toArray, List.set_cons_zero, List.set_cons_succ, i64_w, i32_w]
                rfl
              refine take_ (i := 12) (N := some 47) (v := ?_) (a' := ?_) #[true, true, true, true, true, true, true, true, true, true, true, true, true, false, false, true, false, false, false] rfl rfl (by kernel_rfl) (fun _ _ _ h => h) (Or.inl ⟨by rfl, ?_⟩) hHeld ?_ ?_
              rotate_left
              · rintro w' ⟨s0, s1, s2, s3⟩
                go_simp
                with_reducible rfl
              rotate_left
              · simp only [Act.put, List.setIfInBounds_toArray, List.set_cons_zero, List.set_cons_succ, i64_w, i32_w]
                rfl
              refine pure_ (i := 13) (N := some 48) (v := ?_) (a' := ?_) #[true, true, true, true, true, true, true, true, true, true, true, true, true, true, false, true, false, false, false] rfl rfl (by kernel_rfl) (fun _ _ _ h => h) (Or.inl ⟨by rfl, ?_⟩) ?_ ?_
              rotate_left
              · intro w'
                go_simp
                with_reducible rfl
              rotate_left
              · simp only [Act.put, List.setIfInBounds_toArray, List.set_cons_zero, List.set_cons_succ, i64_w, i32_w]
                rfl
              refine take_ (i := 14) (N := some 49) (v := ?_) (a' := ?_) #[true, true, true, true, true, true, true, true, true, true, true, true, true, true, true, true, false, false, false] rfl rfl (by kernel_rfl) (fun _ _ _ h => h) (Or.inl ⟨by rfl, ?_⟩) hHeld ?_ ?_
              rotate_left
              · rintro w' ⟨s0, s1, s2, s3⟩
                go_simp
                with_reducible rfl
              rotate_left
              · simp only [Act.put, List.setIfInBounds_toArray, List.set_cons_zero, List.set_cons_succ, i64_w, i32_w]
                rfl
              refine pure_ (i := 16) (N := some 51) (v := ?_) (a' := ?_) #[true, true, true, true, true, true, true, true, true, true, true, true, true, true, true, true, true, false, false] rfl rfl (by kernel_rfl) (fun _ _ _ h => h) (Or.inl ⟨by rfl, ?_⟩) ?_ ?_
              rotate_left
              · intro w'
                go_simp
                with_reducible rfl
              rotate_left
              · simp only [Act.put, List.setIfInBounds_toArray, List.set_cons_zero, List.set_cons_succ, i64_w, i32_w]
                rfl
              refine pure_ (i := 17) (N := some 52) (v := ?_) (a' := ?_) #[true, true, true, true, true, true, true, true, true, true, true, true, true, true, true, true, true, true, false] rfl rfl (by kernel_rfl) (fun _ _ _ h => h) (Or.inl ⟨by rfl, ?_⟩) ?_ ?_
              rotate_left
              · intro w'
                go_simp
                with_reducible rfl
              rotate_left
              · simp only [Act.put, List.setIfInBounds_toArray, List.set_cons_zero, List.set_cons_succ, i64_w, i32_w]
                rfl
              refine last_ (i := 18) (N := some 53) #[true, true, true, true, true, true, true, true, true, true, true, true, true, true, true, true, true, true, true] rfl rfl (by kernel_rfl) (by decide) (fun K hK => ?_)
              refine goes_ Try.func60 (by kernel_rfl) rfl #[.pointer (some ⟨L.g, 0, none⟩), .int .i64 q, .string (a.f2.extract 0 b ++ y.extract b y.size)] (by rfl) rfl rfl (by simp only [List.map_toArray, List.map_cons, List.map_nil]; rfl) ?_
              with_reducible refine (HCH.out).mono ?_
              rintro e w3 ⟨rfl, hch⟩
              refine ⟨_, rfl, ?_⟩
              have HCH3 := Aside0.mk hch
              clear hch HCH
              refine hK.out _ _ ?_
              clear hK K
              refine norm_ (a' := ?_) ?_ ?_
              rotate_left
              · show Act.put _ (some 53) _ = _
                simp only [Act.put, List.setIfInBounds_toArray, List.set_cons_zero, List.set_cons_succ, i64_w, i32_w]
                rfl
              refine done_ (by kernel_rfl) ?_
              go_wp2_with fail
              go_roundg (S.pend.length - (j + 1))
              case measure => omega
              case rel =>
                obtain ⟨vs3, F3, g1, g2, g3, g4⟩ := HCH3.out
                exact ⟨j + 1, i + 1, vs3, F3, changeS q (a.f2.extract 0 b ++ y.extract b y.size) S', by go_num, by go_num, by omega, Nat.le_refl _, by omega, ⟨g1⟩, ⟨HFC.out⟩, ⟨HEC.out⟩, ⟨fun k z => (g2 k z).elim (fun z => HFF.out k z) (fun z => Or.inr (by have := HKR.out.1; have := HF1.out.size; simp at z; omega))⟩, ⟨(HKR.out.below HF1.out).then_ g3 (fun _ z => Or.inl z)⟩, ⟨(HBR.out.trans (HF1.out.drew.mono hB)).trans g4⟩⟩
          · have hye : a.f2.extract 0 0 ++ y.extract 0 y.size = y := by simp
            have HEC := Aside0.mk (HEND.out 0 (by rw [hbv]; omega))
            have HFC := Aside0.mk (HFINE.out 0 (Nat.zero_le _))
            have HCH := Aside0.mk (HCHG.out 0 (Nat.zero_le _))
            rw [hye] at HEC HFC HCH
            clear hye hbv HEND HFINE HCHG
            go_wp2_with fail
            refine start_ (n := 19) (S := fun w' => w'.cell? ⟨wr.heap.size, 1, none⟩ = some (.int .i64 q) ∧ w'.cell? ⟨wr.heap.size, 2, none⟩ = some (.string a.f2) ∧ w'.cell? ⟨L.g, 0, none⟩ = some (.slice (some ⟨L.sb, 0, none⟩) S'.stable.length S'.stable.length) ∧ w'.cell? ⟨L.sb, q, none⟩ = some (.string y)) (ds := [18]) #[false, false, false, false, false, false, false, false, false, false, false, false, false, false, false, false, false, false, false] (by kernel_rfl) rfl rfl ⟨n1, n2, k0, ks⟩ (fun hHeld => ?_)
            refine pure_ (i := 0) (N := some 35) (v := ?_) (a' := ?_) #[true, false, false, false, false, false, false, false, false, false, false, false, false, false, false, false, false, false, false] rfl rfl (by kernel_rfl) (fun _ _ _ h => h) (Or.inl ⟨by rfl, ?_⟩) ?_ ?_
            rotate_left
            · intro w'
              go_simp
              with_reducible rfl
            rotate_left
            · simp only [Act.put, List.setIfInBounds_toArray, List.set_cons_zero, List.set_cons_succ, i64_w, i32_w]
              rfl
            refine pure_ (i := 1) (N := some 36) (v := ?_) (a' := ?_) #[true, true, false, false, false, false, false, false, false, false, false, false, false, false, false, false, false, false, false] rfl rfl (by kernel_rfl) (fun _ _ _ h => h) (Or.inl ⟨by rfl, ?_⟩) ?_ ?_
            rotate_left
            · intro w'
              go_simp
              with_reducible rfl
            rotate_left
            · simp only [Act.put, List.setIfInBounds_toArray, List.set_cons_zero, List.set_cons_succ, i64_w, i32_w]
              rfl
            refine pure_ (i := 3) (N := some 38) (v := ?_) (a' := ?_) #[true, true, false, true, false, false, false, false, false, false, false, false, false, false, false, false, false, false, false] rfl rfl (by kernel_rfl) (fun _ _ _ h => h) (Or.inl ⟨by rfl, ?_⟩) ?_ ?_
            rotate_left
            · intro w'
              go_simp
              with_reducible rfl
            rotate_left
            · simp only [Act.put, List.setIfInBounds_toArray, List.set_cons_zero, List.set_cons_succ, i64_w, i32_w]
              rfl
            refine pure_ (i := 5) (N := some 40) (v := ?_) (a' := ?_) #[true, true, false, true, false, true, false, false, false, false, false, false, false, false, false, false, false, false, false] rfl rfl (by kernel_rfl) (fun _ _ _ h => h) (Or.inl ⟨by rfl, ?_⟩) ?_ ?_
            rotate_left
            · intro w'
              go_simp
              with_reducible rfl
            rotate_left
            · simp only [Act.put, List.setIfInBounds_toArray, List.set_cons_zero, List.set_cons_succ, i64_w, i32_w]
              rfl
            refine pure_ (i := 7) (N := some 42) (v := ?_) (a' := ?_) #[true, true, false, true, false, true, false, true, false, false, false, false, false, false, false, false, false, false, false] rfl rfl (by kernel_rfl) (fun _ _ _ h => h) (Or.inl ⟨by rfl, ?_⟩) ?_ ?_
            rotate_left
            · intro w'
              go_simp
              with_reducible rfl
            rotate_left
            · simp only [Act.put, List.setIfInBounds_toArray, List.set_cons_zero, List.set_cons_succ, i64_w, i32_w]
              rfl
            refine pure_ (i := 8) (N := some 43) (v := ?_) (a' := ?_) #[true, true, false, true, false, true, false, true, true, false, false, false, false, false, false, false, false, false, false] rfl rfl (by kernel_rfl) (fun _ _ _ h => h) (Or.inl ⟨by rfl, ?_⟩) ?_ ?_
            rotate_left
            · intro w'
              go_simp
              with_reducible rfl
            rotate_left
            · simp only [Act.put, List.setIfInBounds_toArray, List.set_cons_zero, List.set_cons_succ, i64_w, i32_w]
              rfl
            refine pure_ (i := 9) (N := some 44) (v := ?_) (a' := ?_) #[true, true, false, true, false, true, false, true, true, true, false, false, false, false, false, false, false, false, false] rfl rfl (by kernel_rfl) (fun _ _ _ h => h) (Or.inl ⟨by rfl, ?_⟩) ?_ ?_
            rotate_left
            · intro w'
              go_simp
              with_reducible rfl
            rotate_left
            · simp only [Act.put, List.setIfInBounds_toArray, List.set_cons_zero, List.set_cons_succ, i64_w, i32_w]
              rfl
            refine pure_ (i := 11) (N := some 46) (v := ?_) (a' := ?_) #[true, true, false, true, false, true, false, true, true, true, false, true, false, false, false, false, false, false, false] rfl rfl (by kernel_rfl) (fun _ _ _ h => h) (Or.inl ⟨by rfl, ?_⟩) ?_ ?_
            rotate_left
            · intro w'
              go_simp
              with_reducible rfl
            rotate_left
            · simp only [Act.put, List.setIfInBounds_toArray, List.set_cons_zero, List.set_cons_succ, i64_w, i32_w]
              rfl
            refine pure_ (i := 15) (N := some 50) (v := ?_) (a' := ?_) #[true, true, false, true, false, true, false, true, true, true, false, true, false, false, false, true, false, false, false] rfl rfl (by kernel_rfl) (fun _ _ _ h => h) (Or.inl ⟨by rfl, ?_⟩) ?_ ?_
            rotate_left
            · intro w'
              go_simp
              with_reducible rfl
            rotate_left
            · simp only [Act.put, List.setIfInBounds_toArray, List.set_cons_zero, List.set_cons_succ, i64_w, i32_w]
              rfl
            refine take_ (i := 2) (N := some 37) (v := ?_) (a' := ?_) #[true, true, true, true, false, true, false, true, true, true, false, true, false, false, false, true, false, false, false] rfl rfl (by kernel_rfl) (fun _ _ _ h => h) (Or.inl ⟨by rfl, ?_⟩) hHeld ?_ ?_
            rotate_left
            · rintro w' ⟨s0, s1, s2, s3⟩
              go_simp
              with_reducible rfl
            rotate_left
            · simp only [Act.put, List.setIfInBounds_toArray, List.set_cons_zero, List.set_cons_succ, i64_w, i32_w]
              rfl
            refine take_ (i := 4) (N := some 39) (v := ?_) (a' := ?_) #[true, true, true, true, true, true, false, true, true, true, false, true, false, false, false, true, false, false, false] rfl rfl (by kernel_rfl) (fun _ _ _ h => h) (Or.inl ⟨by rfl, ?_⟩) hHeld ?_ ?_
            rotate_left
            · rintro w' ⟨s0, s1, s2, s3⟩
              go_simp
              with_reducible rfl
            rotate_left
            · simp only [Act.put, List.setIfInBounds_toArray, List.set_cons_zero, List.set_cons_succ, i64_w, i32_w]
              rfl
            refine pure_ (i := 6) (N := some 41) (v := ?_) (a' := ?_) #[true, true, true, true, true, true, true, true, true, true, false, true, false, false, false, true, false, false, false] rfl rfl (by kernel_rfl) (fun _ _ _ h => h) (Or.inl ⟨by rfl, ?_⟩) ?_ ?_
            rotate_left
            · intro w'
              go_simp
              with_reducible rfl
            rotate_left
            · simp only [Act.put, List.setIfInBounds_toArray, List.set_cons_zero, List.set_cons_succ, i64_w, i32_w]
              rfl
            refine take_ (i := 10) (N := some 45) (v := ?_) (a' := ?_) #[true, true, true, true, true, true, true, true, true, true, true, true, false, false, false, true, false, false, false] rfl rfl (by kernel_rfl) (fun _ _ _ h => h) (Or.inl ⟨by rfl, ?_⟩) hHeld ?_ ?_
            rotate_left
            · rintro w' ⟨s0, s1, s2, s3⟩
              go_simp
              with_reducible rfl
            rotate_left
            · simp only [Act.put, List.setIfInBounds_toArray, List.set_cons_zero, List.set_cons_succ, i64_w, i32_w]
              rfl
            refine take_ (i := 12) (N := some 47) (v := ?_) (a' := ?_) #[true, true, true, true, true, true, true, true, true, true, true, true, true, false, false, true, false, false, false] rfl rfl (by kernel_rfl) (fun _ _ _ h => h) (Or.inl ⟨by rfl, ?_⟩) hHeld ?_ ?_
            rotate_left
            · rintro w' ⟨s0, s1, s2, s3⟩
              go_simp
              with_reducible rfl
            rotate_left
            · simp only [Act.put, List.setIfInBounds_toArray, List.set_cons_zero, List.set_cons_succ, i64_w, i32_w]
              rfl
            refine pure_ (i := 13) (N := some 48) (v := ?_) (a' := ?_) #[true, true, true, true, true, true, true, true, true, true, true, true, true, true, false, true, false, false, false] rfl rfl (by kernel_rfl) (fun _ _ _ h => h) (Or.inl ⟨by rfl, ?_⟩) ?_ ?_
            rotate_left
            · intro w'
              go_simp
              with_reducible rfl
            rotate_left
            · simp only [Act.put, List.setIfInBounds_toArray, List.set_cons_zero, List.set_cons_succ, i64_w, i32_w]
              rfl
            refine take_ (i := 14) (N := some 49) (v := ?_) (a' := ?_) #[true, true, true, true, true, true, true, true, true, true, true, true, true, true, true, true, false, false, false] rfl rfl (by kernel_rfl) (fun _ _ _ h => h) (Or.inl ⟨by rfl, ?_⟩) hHeld ?_ ?_
            rotate_left
            · rintro w' ⟨s0, s1, s2, s3⟩
              go_simp
              with_reducible rfl
            rotate_left
            · simp only [Act.put, List.setIfInBounds_toArray, List.set_cons_zero, List.set_cons_succ, i64_w, i32_w]
              rfl
            refine pure_ (i := 16) (N := some 51) (v := ?_) (a' := ?_) #[true, true, true, true, true, true, true, true, true, true, true, true, true, true, true, true, true, false, false] rfl rfl (by kernel_rfl) (fun _ _ _ h => h) (Or.inl ⟨by rfl, ?_⟩) ?_ ?_
            rotate_left
            · intro w'
              go_simp
              with_reducible rfl
            rotate_left
            · simp only [Act.put, List.setIfInBounds_toArray, List.set_cons_zero, List.set_cons_succ, i64_w, i32_w]
              rfl
            refine pure_ (i := 17) (N := some 52) (v := ?_) (a' := ?_) #[true, true, true, true, true, true, true, true, true, true, true, true, true, true, true, true, true, true, false] rfl rfl (by kernel_rfl) (fun _ _ _ h => h) (Or.inl ⟨by rfl, ?_⟩) ?_ ?_
            rotate_left
            · intro w'
              go_simp
              with_reducible rfl
            rotate_left
            · simp only [Act.put, List.setIfInBounds_toArray, List.set_cons_zero, List.set_cons_succ, i64_w, i32_w]
              rfl
            refine last_ (i := 18) (N := some 53) #[true, true, true, true, true, true, true, true, true, true, true, true, true, true, true, true, true, true, true] rfl rfl (by kernel_rfl) (by decide) (fun K hK => ?_)
            refine goes_ Try.func60 (by kernel_rfl) rfl #[.pointer (some ⟨L.g, 0, none⟩), .int .i64 q, .string y] (by rfl) rfl rfl (by simp only [List.map_toArray, List.map_cons, List.map_nil]; rfl) ?_
            with_reducible refine (HCH.out).mono ?_
            rintro e w3 ⟨rfl, hch⟩
            refine ⟨_, rfl, ?_⟩
            have HCH3 := Aside0.mk hch
            clear hch HCH
            refine hK.out _ _ ?_
            clear hK K
            refine norm_ (a' := ?_) ?_ ?_
            rotate_left
            · show Act.put _ (some 53) _ = _
              simp only [Act.put, List.setIfInBounds_toArray, List.set_cons_zero, List.set_cons_succ, i64_w, i32_w]
              rfl
            refine done_ (by kernel_rfl) ?_
            go_wp2_with fail
            go_roundg (S.pend.length - (j + 1))
            case measure => omega
            case rel =>
              obtain ⟨vs3, F3, g1, g2, g3, g4⟩ := HCH3.out
              exact ⟨j + 1, i + 1, vs3, F3, changeS q y S', by go_num, by go_num, by omega, Nat.le_refl _, by omega, ⟨g1⟩, ⟨HFC.out⟩, ⟨HEC.out⟩, ⟨fun k z => (g2 k z).elim (fun z => HFF.out k z) (fun z => Or.inr (by have := HKR.out.1; have := HF1.out.size; simp at z; omega))⟩, ⟨(HKR.out.below HF1.out).then_ g3 (fun _ z => Or.inl z)⟩, ⟨(HBR.out.trans (HF1.out.drew.mono hB)).trans g4⟩⟩
        · have hilz : ¬ (i : Int) < (l.length : Int) := by omega
          have hye : a.f2.extract 0 0 ++ y.extract 0 y.size = y := by simp
          have HEC := Aside0.mk (HEND.out 0 (by unfold bytesAt; rw [List.getElem?_eq_none hil]))
          have HFC := Aside0.mk (HFINE.out 0 (Nat.zero_le _))
          have HCH := Aside0.mk (HCHG.out 0 (Nat.zero_le _))
          rw [hye] at HEC HFC HCH
          clear hye hil hci HEND HFINE HCHG
          go_wp2_with fail
          refine start_ (n := 19) (S := fun w' => w'.cell? ⟨wr.heap.size, 1, none⟩ = some (.int .i64 q) ∧ w'.cell? ⟨wr.heap.size, 2, none⟩ = some (.string a.f2) ∧ w'.cell? ⟨L.g, 0, none⟩ = some (.slice (some ⟨L.sb, 0, none⟩) S'.stable.length S'.stable.length) ∧ w'.cell? ⟨L.sb, q, none⟩ = some (.string y)) (ds := [18]) #[false, false, false, false, false, false, false, false, false, false, false, false, false, false, false, false, false, false, false] (by kernel_rfl) rfl rfl ⟨n1, n2, k0, ks⟩ (fun hHeld => ?_)
          refine pure_ (i := 0) (N := some 35) (v := ?_) (a' := ?_) #[true, false, false, false, false, false, false, false, false, false, false, false, false, false, false, false, false, false, false] rfl rfl (by kernel_rfl) (fun _ _ _ h => h) (Or.inl ⟨by rfl, ?_⟩) ?_ ?_
          rotate_left
          · intro w'
            go_simp
            with_reducible rfl
          rotate_left
          · simp only [Act.put, List.setIfInBounds_toArray, List.set_cons_zero, List.set_cons_succ, i64_w, i32_w]
            rfl
          refine pure_ (i := 1) (N := some 36) (v := ?_) (a' := ?_) #[true, true, false, false, false, false, false, false, false, false, false, false, false, false, false, false, false, false, false] rfl rfl (by kernel_rfl) (fun _ _ _ h => h) (Or.inl ⟨by rfl, ?_⟩) ?_ ?_
          rotate_left
          · intro w'
            go_simp
            with_reducible rfl
          rotate_left
          · simp only [Act.put, List.setIfInBounds_toArray, List.set_cons_zero, List.set_cons_succ, i64_w, i32_w]
            rfl
          refine pure_ (i := 3) (N := some 38) (v := ?_) (a' := ?_) #[true, true, false, true, false, false, false, false, false, false, false, false, false, false, false, false, false, false, false] rfl rfl (by kernel_rfl) (fun _ _ _ h => h) (Or.inl ⟨by rfl, ?_⟩) ?_ ?_
          rotate_left
          · intro w'
            go_simp
            with_reducible rfl
          rotate_left
          · simp only [Act.put, List.setIfInBounds_toArray, List.set_cons_zero, List.set_cons_succ, i64_w, i32_w]
            rfl
          refine pure_ (i := 5) (N := some 40) (v := ?_) (a' := ?_) #[true, true, false, true, false, true, false, false, false, false, false, false, false, false, false, false, false, false, false] rfl rfl (by kernel_rfl) (fun _ _ _ h => h) (Or.inl ⟨by rfl, ?_⟩) ?_ ?_
          rotate_left
          · intro w'
            go_simp
            with_reducible rfl
          rotate_left
          · simp only [Act.put, List.setIfInBounds_toArray, List.set_cons_zero, List.set_cons_succ, i64_w, i32_w]
            rfl
          refine pure_ (i := 7) (N := some 42) (v := ?_) (a' := ?_) #[true, true, false, true, false, true, false, true, false, false, false, false, false, false, false, false, false, false, false] rfl rfl (by kernel_rfl) (fun _ _ _ h => h) (Or.inl ⟨by rfl, ?_⟩) ?_ ?_
          rotate_left
          · intro w'
            go_simp
            with_reducible rfl
          rotate_left
          · simp only [Act.put, List.setIfInBounds_toArray, List.set_cons_zero, List.set_cons_succ, i64_w, i32_w]
            rfl
          refine pure_ (i := 8) (N := some 43) (v := ?_) (a' := ?_) #[true, true, false, true, false, true, false, true, true, false, false, false, false, false, false, false, false, false, false] rfl rfl (by kernel_rfl) (fun _ _ _ h => h) (Or.inl ⟨by rfl, ?_⟩) ?_ ?_
          rotate_left
          · intro w'
            go_simp
            with_reducible rfl
          rotate_left
          · simp only [Act.put, List.setIfInBounds_toArray, List.set_cons_zero, List.set_cons_succ, i64_w, i32_w]
            rfl
          refine pure_ (i := 9) (N := some 44) (v := ?_) (a' := ?_) #[true, true, false, true, false, true, false, true, true, true, false, false, false, false, false, false, false, false, false] rfl rfl (by kernel_rfl) (fun _ _ _ h => h) (Or.inl ⟨by rfl, ?_⟩) ?_ ?_
          rotate_left
          · intro w'
            go_simp
            with_reducible rfl
          rotate_left
          · simp only [Act.put, List.setIfInBounds_toArray, List.set_cons_zero, List.set_cons_succ, i64_w, i32_w]
            rfl
          refine pure_ (i := 11) (N := some 46) (v := ?_) (a' := ?_) #[true, true, false, true, false, true, false, true, true, true, false, true, false, false, false, false, false, false, false] rfl rfl (by kernel_rfl) (fun _ _ _ h => h) (Or.inl ⟨by rfl, ?_⟩) ?_ ?_
          rotate_left
          · intro w'
            go_simp
            with_reducible rfl
          rotate_left
          · simp only [Act.put, List.setIfInBounds_toArray, List.set_cons_zero, List.set_cons_succ, i64_w, i32_w]
            rfl
          refine pure_ (i := 15) (N := some 50) (v := ?_) (a' := ?_) #[true, true, false, true, false, true, false, true, true, true, false, true, false, false, false, true, false, false, false] rfl rfl (by kernel_rfl) (fun _ _ _ h => h) (Or.inl ⟨by rfl, ?_⟩) ?_ ?_
          rotate_left
          · intro w'
            go_simp
            with_reducible rfl
          rotate_left
          · simp only [Act.put, List.setIfInBounds_toArray, List.set_cons_zero, List.set_cons_succ, i64_w, i32_w]
            rfl
          refine take_ (i := 2) (N := some 37) (v := ?_) (a' := ?_) #[true, true, true, true, false, true, false, true, true, true, false, true, false, false, false, true, false, false, false] rfl rfl (by kernel_rfl) (fun _ _ _ h => h) (Or.inl ⟨by rfl, ?_⟩) hHeld ?_ ?_
          rotate_left
          · rintro w' ⟨s0, s1, s2, s3⟩
            go_simp
            with_reducible rfl
          rotate_left
          · simp only [Act.put, List.setIfInBounds_toArray, List.set_cons_zero, List.set_cons_succ, i64_w, i32_w]
            rfl
          refine take_ (i := 4) (N := some 39) (v := ?_) (a' := ?_) #[true, true, true, true, true, true, false, true, true, true, false, true, false, false, false, true, false, false, false] rfl rfl (by kernel_rfl) (fun _ _ _ h => h) (Or.inl ⟨by rfl, ?_⟩) hHeld ?_ ?_
          rotate_left
          · rintro w' ⟨s0, s1, s2, s3⟩
            go_simp
            with_reducible rfl
          rotate_left
          · simp only [Act.put, List.setIfInBounds_toArray, List.set_cons_zero, List.set_cons_succ, i64_w, i32_w]
            rfl
          refine pure_ (i := 6) (N := some 41) (v := ?_) (a' := ?_) #[true, true, true, true, true, true, true, true, true, true, false, true, false, false, false, true, false, false, false] rfl rfl (by kernel_rfl) (fun _ _ _ h => h) (Or.inl ⟨by rfl, ?_⟩) ?_ ?_
          rotate_left
          · intro w'
            go_simp
            with_reducible rfl
          rotate_left
          · simp only [Act.put, List.setIfInBounds_toArray, List.set_cons_zero, List.set_cons_succ, i64_w, i32_w]
            rfl
          refine take_ (i := 10) (N := some 45) (v := ?_) (a' := ?_) #[true, true, true, true, true, true, true, true, true, true, true, true, false, false, false, true, false, false, false] rfl rfl (by kernel_rfl) (fun _ _ _ h => h) (Or.inl ⟨by rfl, ?_⟩) hHeld ?_ ?_
          rotate_left
          · rintro w' ⟨s0, s1, s2, s3⟩
            go_simp
            with_reducible rfl
          rotate_left
          · simp only [Act.put, List.setIfInBounds_toArray, List.set_cons_zero, List.set_cons_succ, i64_w, i32_w]
            rfl
          refine take_ (i := 12) (N := some 47) (v := ?_) (a' := ?_) #[true, true, true, true, true, true, true, true, true, true, true, true, true, false, false, true, false, false, false] rfl rfl (by kernel_rfl) (fun _ _ _ h => h) (Or.inl ⟨by rfl, ?_⟩) hHeld ?_ ?_
          rotate_left
          · rintro w' ⟨s0, s1, s2, s3⟩
            go_simp
            with_reducible rfl
          rotate_left
          · simp only [Act.put, List.setIfInBounds_toArray, List.set_cons_zero, List.set_cons_succ, i64_w, i32_w]
            rfl
          refine pure_ (i := 13) (N := some 48) (v := ?_) (a' := ?_) #[true, true, true, true, true, true, true, true, true, true, true, true, true, true, false, true, false, false, false] rfl rfl (by kernel_rfl) (fun _ _ _ h => h) (Or.inl ⟨by rfl, ?_⟩) ?_ ?_
          rotate_left
          · intro w'
            go_simp
            with_reducible rfl
          rotate_left
          · simp only [Act.put, List.setIfInBounds_toArray, List.set_cons_zero, List.set_cons_succ, i64_w, i32_w]
            rfl
          refine take_ (i := 14) (N := some 49) (v := ?_) (a' := ?_) #[true, true, true, true, true, true, true, true, true, true, true, true, true, true, true, true, false, false, false] rfl rfl (by kernel_rfl) (fun _ _ _ h => h) (Or.inl ⟨by rfl, ?_⟩) hHeld ?_ ?_
          rotate_left
          · rintro w' ⟨s0, s1, s2, s3⟩
            go_simp
            with_reducible rfl
          rotate_left
          · simp only [Act.put, List.setIfInBounds_toArray, List.set_cons_zero, List.set_cons_succ, i64_w, i32_w]
            rfl
          refine pure_ (i := 16) (N := some 51) (v := ?_) (a' := ?_) #[true, true, true, true, true, true, true, true, true, true, true, true, true, true, true, true, true, false, false] rfl rfl (by kernel_rfl) (fun _ _ _ h => h) (Or.inl ⟨by rfl, ?_⟩) ?_ ?_
          rotate_left
          · intro w'
            go_simp
            with_reducible rfl
          rotate_left
          · simp only [Act.put, List.setIfInBounds_toArray, List.set_cons_zero, List.set_cons_succ, i64_w, i32_w]
            rfl
          refine pure_ (i := 17) (N := some 52) (v := ?_) (a' := ?_) #[true, true, true, true, true, true, true, true, true, true, true, true, true, true, true, true, true, true, false] rfl rfl (by kernel_rfl) (fun _ _ _ h => h) (Or.inl ⟨by rfl, ?_⟩) ?_ ?_
          rotate_left
          · intro w'
            go_simp
            with_reducible rfl
          rotate_left
          · simp only [Act.put, List.setIfInBounds_toArray, List.set_cons_zero, List.set_cons_succ, i64_w, i32_w]
            rfl
          refine last_ (i := 18) (N := some 53) #[true, true, true, true, true, true, true, true, true, true, true, true, true, true, true, true, true, true, true] rfl rfl (by kernel_rfl) (by decide) (fun K hK => ?_)
          refine goes_ Try.func60 (by kernel_rfl) rfl #[.pointer (some ⟨L.g, 0, none⟩), .int .i64 q, .string y] (by rfl) rfl rfl (by simp only [List.map_toArray, List.map_cons, List.map_nil]; rfl) ?_
          with_reducible refine (HCH.out).mono ?_
          rintro e w3 ⟨rfl, hch⟩
          refine ⟨_, rfl, ?_⟩
          have HCH3 := Aside0.mk hch
          clear hch HCH
          refine hK.out _ _ ?_
          clear hK K
          refine norm_ (a' := ?_) ?_ ?_
          rotate_left
          · show Act.put _ (some 53) _ = _
            simp only [Act.put, List.setIfInBounds_toArray, List.set_cons_zero, List.set_cons_succ, i64_w, i32_w]
            rfl
          refine done_ (by kernel_rfl) ?_
          go_wp2_with fail
          go_roundg (S.pend.length - (j + 1))
          case measure => omega
          case rel =>
            obtain ⟨vs3, F3, g1, g2, g3, g4⟩ := HCH3.out
            exact ⟨j + 1, i + 1, vs3, F3, changeS q y S', by go_num, by go_num, by omega, Nat.le_refl _, by omega, ⟨g1⟩, ⟨HFC.out⟩, ⟨HEC.out⟩, ⟨fun k z => (g2 k z).elim (fun z => HFF.out k z) (fun z => Or.inr (by have := HKR.out.1; have := HF1.out.size; simp at z; omega))⟩, ⟨(HKR.out.below HF1.out).then_ g3 (fun _ z => Or.inl z)⟩, ⟨(HBR.out.trans (HF1.out.drew.mono hB)).trans g4⟩⟩
    · obtain rfl : j = S.pend.length := by omega
      have c2r := HPR.out.c2
      have hB : B ≤ wr.heap.size := by have := HPR.out.hr _ HPR.out.hF.1; omega
      have hpe : S'.pend = S.pend := HSA.out.pend
      have hdel := delfun_calls wr B f caps p (fun k => some k = (Value.slice A2 S.pend.length cc).ownBlock ∧ F' k) (.slice A2 S.pend.length cc) S'.pend ((HM.out.kept HKM.out).mono (fun k hk => Or.inl (Or.inr (Or.inr (Or.inr (Or.inr hk.1)))))) (by rw [hpe]; omega) (Kd.R_tight2 rfl HPR.out.hp) hB
      rw [hpe] at hdel
      have HDEL := Aside0.mk hdel
      have fg := HPR.out.fg 2
      clear hdel hpe
      go_wp2_with fail
      refine HDEL.out.mono ?_
      rintro e W3 ⟨pv', rfl, hR3, ho3, hk3, hb3⟩
      have hg3 : W3.heap[L.g]? = some (.cells (gcells L (.slice A2 S.pend.length cc) uv S') 81 (0, 0)) := blk_kept HPR.out.hg hk3 (fun e => by
        obtain ⟨inner, ho⟩ := Kd.R_own HPR.out.hp
        obtain ⟨cells, hc⟩ := own_typed ho _ e.symm
        rw [HPR.out.hg] at hc
        cases hc)
      have fg3 : W3.frozen? ⟨L.g, 2, none⟩ = false := blk_frozen hg3 2
      have c23 : W3.cell? ⟨L.g, 2, none⟩ = some (.slice A2 S.pend.length cc) := by rw [blk_cell hg3]; rfl
      obtain ⟨A3, c3, hv3, _, _⟩ := Kd.R_reads hR3
      have HR3 := Aside0.mk hR3
      have HO3 := Aside0.mk ho3
      have HK3 := Aside0.mk hk3
      have HB3 := Aside0.mk hb3
      clear hR3 ho3 hk3 hb3 hg3 HDEL
      subst hv3
      go_wp2_with fail

      go_end0
      refine ⟨rfl, F', ⟨vs', .slice A3 (List.filter (fun a => !p a) S.pend).length c3, uv, m, ?_⟩, HFF.out, ?_, ?_⟩
      · have h1 := HPR.out.setPend (F' := F') HK3.out (Kd.R_mono HR3.out (fun k hk => hk.2)) (fun k z => z) (fun k z => Or.inl z) (Or.inl HO3.out)
        have h2 := HE.out
        rw [List.take_length] at h2
        unfold finishS
        rw [h2]
        exact h1
      · exact ((HKR.out.mono (fun k z => HP.out.own k (z.elim (fun z => Or.inr (Or.inl z)) (fun z => Or.inr (Or.inr (Or.inl z)))))).then_ HK3.out (fun k z => Or.inl (HP.out.own k (Or.inr (Or.inr (Or.inr (Or.inr z))))))).setCell (Or.inl HP.out.hF.1) _
      · exact (HBR.out.trans HB3.out).setCell (HP.out.hr _ HP.out.hF.1).1 _
end Go.Proofs.Ytflajmgichdhhaa.PG
