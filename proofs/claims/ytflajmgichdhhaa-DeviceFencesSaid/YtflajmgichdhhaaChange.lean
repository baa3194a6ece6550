/- change: a stable content changes, and the one before goes to the front of the earlier ones. -/
import Derived.Test.YtflajmgichdhhaaLook
import Derived.BigQuiet

import Derived.Laws.Strings
namespace Go.Proofs.Ytflajmgichdhhaa.PG
open Go.RowKit Go.Proofs.YtflajmgichdhhaaW.PrintWords Go.Proofs.YtflajmgichdhhaaW.PrintLast Go.Proofs.YtflajmgichdhhaaW.PrintMore

set_option linter.unusedVariables false
set_option linter.unusedSimpArgs false
attribute [local go_sem] max2_int min2_int max_two min_two
theorem bytes_yes {x y : ByteArray} (h : x = y) : (x.toList == y.toList) = true := by rw [h]; simp
theorem bytes_no {x y : ByteArray} (h : ¬ x = y) : (x.toList == y.toList) = false := by
  refine beq_eq_false_iff_ne.2 (fun z => h ?_)
  rw [ByteArray.toList_eq, ByteArray.toList_eq] at z
  exact ByteArray.ext (Array.toList_inj.mp z)
theorem stopHere {p : Prop} (h : Aside0 p) : p := h.out
/-! ### change -/
def changeS (n : Nat) (d : ByteArray) (S : DevS) : DevS :=
  if S.stable.getD n ⟨#[]⟩ = d then S else { S with stable := S.stable.set n d, old := S.old.set n ((S.stable.getD n ⟨#[]⟩ :: S.old.getD n []).take 8) }
def ChPost (B : Nat) (L : Lay) (pv uv : Value) (m : Ents) (F : Nat → Prop) (S' : DevS) (W W' : World) : Prop := ∃ vs' F', DevAt W' B L vs' pv uv m F' S' ∧ (∀ k, F' k → F k ∨ W.heap.size ≤ k) ∧ Kept W W' (fun k => k = L.sb ∨ k = L.ob) ∧ Below B W W'
theorem MapIs.ne {W : World} {b k : Nat} {m : Ents} {cs : Array Value} {t : TypeId} (h : MapIs W b m) (hk : W.heap[k]? = some (.cells cs t (0, 0))) : k ≠ b := by
  obtain ⟨es, c, hb, _⟩ := h
  rintro rfl
  rw [hk] at hb
  cases hb
theorem slice_get {W : World} {L : Lay} {vs : List Value} {n : Nat} {v : Value} : (vs.toArray).setIfInBounds n v = (vs.set n v).toArray := by rw [List.setIfInBounds_toArray]
theorem DevAt.change {W w2 : World} {B : Nat} {L : Lay} {vs : List Value} {pv uv : Value} {m : Ents} {F : Nat → Prop} {S : DevS} (h : DevAt W B L vs pv uv m F S) (hb : Below W.heap.size W w2) (n : Nat) (v : Value) (y : List ByteArray)
    (hv : Kd.V Kd.string 9 w2 0 (fun k => W.heap.size ≤ k) v y) (d : ByteArray) :
    ChPost B L pv uv m F { S with stable := S.stable.set n d, old := S.old.set n y } W ((w2.setCell ⟨L.ob, n, none⟩ v).setCell ⟨L.sb, n, none⟩ (.string d)) := by
  have h2 := h.below hb
  have hne : L.ob ≠ L.sb := blk_ne h.ho h.hs (by decide)
  have hgo : L.g ≠ L.ob := blk_ne h.hg h.ho (by decide)
  have hgs : L.g ≠ L.sb := blk_ne h.hg h.hs (by decide)
  have hsz : ((w2.setCell ⟨L.ob, n, none⟩ v).setCell ⟨L.sb, n, none⟩ (.string d)).heap.size = w2.heap.size := by simp [World.setCell]
  have hfar : ∀ k, k ≠ L.ob → k ≠ L.sb → ((w2.setCell ⟨L.ob, n, none⟩ v).setCell ⟨L.sb, n, none⟩ (.string d)).heap[k]? = w2.heap[k]? := fun k h1 h2 => (Below.heap_setCell _ _ _ _ h2).trans (Below.heap_setCell _ _ _ _ h1)
  have hps : ∀ k, pv.ownBlock = some k → k ≠ L.ob ∧ k ≠ L.sb := fun k hk => by
    obtain ⟨inner, ho⟩ := Kd.R_own h.hp
    obtain ⟨cells, hc⟩ := own_typed ho k hk
    exact ⟨blk_ne hc h.ho (by decide), blk_ne hc h.hs (by decide)⟩
  have hmo : L.bm ≠ L.ob ∧ L.bm ≠ L.sb := ⟨fun e => h.hm.ne h.ho e.symm, fun e => h.hm.ne h.hs e.symm⟩
  have hsz2 := hb.size
  refine ⟨vs.set n v, fun k => F k ∨ (W.heap.size ≤ k ∧ k < w2.heap.size), { hg := ?_, hs := ?_, ho := ?_, hvl := ?_, hv := ?_, hp := ?_, hm := ?_, hl := h.hl, hu := ?_, hF := ⟨Or.inl h.hF.1, Or.inl h.hF.2.1, Or.inl h.hF.2.2.1, Or.inl h.hF.2.2.2⟩, hr := ?_ }, fun k hk => hk.imp id (fun z => z.1), ?_, ?_⟩
  · refine (hfar _ hgo hgs).trans (h2.hg.trans ?_)
    unfold gcells
    simp only [List.length_set]
  · exact blk_put ((Below.heap_setCell _ _ _ _ (fun e => hne e.symm)).trans h2.hs) n _ (strs_set _ _ _)
  · exact (Below.heap_setCell _ _ _ _ hne).trans (blk_put h2.ho n v (by rw [List.setIfInBounds_toArray]))
  · simp only [List.length_set]; exact h.hvl
  · intro i v' x' h1 h3
    simp only [List.getElem?_set] at h1 h3
    by_cases e : n = i
    · rw [if_pos e] at h1 h3
      split at h1
      · split at h3
        · cases h1
          cases h3
          have hv1 : Kd.V Kd.string 9 w2 0 (Fr L pv (fun k => F k ∨ (W.heap.size ≤ k ∧ k < w2.heap.size))) v y := Kd.V_mono (Kd.V_bound hv) (fun k hk => ⟨Or.inr hk, fun hm => by
            have := (h.hr k (h.own k hm)).2
            have := hk.1
            omega⟩)
          exact Kd.V_step hv1 (fun k hk _ => hfar k (fun e => hk.2 (Or.inr (Or.inr (Or.inl e)))) (fun e => hk.2 (Or.inr (Or.inl e))))
        · cases h3
      · cases h1
    · rw [if_neg e] at h1 h3
      exact Kd.V_mono (Kd.V_step (h2.hv i v' x' h1 h3) (fun k hk _ => hfar k (fun e => hk.2 (Or.inr (Or.inr (Or.inl e)))) (fun e => hk.2 (Or.inr (Or.inl e))))) (fun k hk => ⟨Or.inl hk.1, hk.2⟩)
  · exact Kd.R_mono (Kd.R_step (Kd.R_tight2 rfl h2.hp) (fun k hk _ => hfar k (hps k hk.1.symm).1 (hps k hk.1.symm).2)) (fun k hk => Or.inl hk.2)
  · exact h2.hm.move (hfar _ hmo.1 hmo.2)
  · exact Kd.V_mono (Kd.V_step h2.hu (fun k hk _ => hfar k (fun e => hk.2 (Or.inr (Or.inr (Or.inl e)))) (fun e => hk.2 (Or.inr (Or.inl e))))) (fun k hk => ⟨Or.inl hk.1, hk.2⟩)
  · rintro k (hk | hk)
    · rw [hsz]; have := h.hr k hk; exact ⟨this.1, by omega⟩
    · rw [hsz]; have := h.hr _ h.hF.1; exact ⟨by omega, hk.2⟩
  · exact ((Kept.of_below hb _).setCell (Or.inl (Or.inr rfl)) v).setCell (Or.inl (Or.inl rfl)) _
  · have hB : B ≤ W.heap.size := by have := h.hr _ h.hF.1; omega
    exact ((hb.mono hB).setCell (h.hr _ h.hF.2.2.1).1 v).setCell (h.hr _ h.hF.2.1).1 _
theorem ChPost.drew {B : Nat} {L : Lay} {pv uv : Value} {m : Ents} {F : Nat → Prop} {S : DevS} {W W' : World} (h : ChPost B L pv uv m F S W W') : ChPost B L pv uv m F S W W'.drew := by
  obtain ⟨vs, F', h1, h2, h3, h4⟩ := h
  exact ⟨vs, F', h1.move (fun _ _ => rfl) (Nat.le_refl _), h2, h3.drew, h4.drew⟩
section
variable {W : World} {B : Nat} {L : Lay} {vs : List Value} {pv uv : Value} {m : Ents} {F : Nat → Prop} {S : DevS}
set_option maxRecDepth 100000 in
theorem change_calls (hP : DevAt W B L vs pv uv m F S) (hlen : S.old.length = S.stable.length) (hol : ∀ l ∈ S.old, l.length ≤ 8) (n : Nat) (hn : n < S.stable.length) (d : ByteArray) :
    Calls Try.prog 60 #[.pointer (some ⟨L.g, 0, none⟩), .int .i64 n, .string d] W fun e W' => e = .returned (.tuple #[]) ∧ ChPost B L pv uv m F (changeS n d S) W W' := by
  unfold changeS
  have hno : n < S.old.length := by omega
  have hst : S.stable.getD n ⟨#[]⟩ = S.stable[n] := by rw [List.getD_eq_getElem?_getD, List.getElem?_eq_getElem hn]; rfl
  have hso : S.old.getD n [] = S.old[n] := by rw [List.getD_eq_getElem?_getD, List.getElem?_eq_getElem hno]; rfl
  have c0 := hP.c0
  have c1 := hP.c1
  have cs := hP.cs n hn
  obtain ⟨A, c, co, hlc, hfo, hvn⟩ := hP.co n hno
  have hl8 : S.old[n].length ≤ 8 := hol _ (List.getElem_mem _)
  have hnz : ((n : Nat) : Int) < (S.stable.length : Int) := by omega
  have hrg := hP.hr _ hP.hF.1
  have hrs := hP.hr _ hP.hF.2.1
  have hro := hP.hr _ hP.hF.2.2.1
  have lg := hrg.2
  have ls := hrs.2
  have lo := hro.2
  rw [hst, hso]
  obtain ⟨x, hx⟩ : ∃ x, x = S.stable[n] := ⟨_, rfl⟩
  obtain ⟨y, hy⟩ : ∃ y, y = S.old[n] := ⟨_, rfl⟩
  rw [← hx] at cs ⊢
  rw [← hy] at co hlc hfo hvn hl8 ⊢
  have HP := Aside0.mk hP
  by_cases h : x = d
  · rw [if_pos h]
    have hb : (x.toList == d.toList) = true := bytes_yes h
    clear hP hlen hol hn hno hst hso hx hy hfo hvn h
    go_enter Try.func60, Try.ntmps60
    go_wp2_with fail
    refine bodyPost_ret (results_none rfl _ _ _) rfl ?_
    exact ⟨rfl, vs, F, HP.out, fun k z => Or.inl z, Kept.refl _ _, Below.refl _ _⟩
  · rw [if_neg h]
    have hb : (x.toList == d.toList) = false := bytes_no h
    have HFO := Aside0.mk hfo
    have HC := Aside0.mk (Kd.F_now hfo)
    have HVN := Aside0.mk hvn
    have HN := Aside0.mk hn
    clear hP hlen hol hn hno hst hso hx hy hfo hvn h
    go_enter Try.func60, Try.ntmps60
    go_wp2_with (first | ((with_reducible refine gate_dst (N := 19) rfl ?_); refine Kd.R_lit Kd.string (w0 := W) W.heap.size 9 ?hg (N := 19) ?hd (xs := [x]) (inner := [.string x]) (ok := fun k => W.heap.size ≤ k) (okp := fun _ => False) ?hr ?hp (fun _ hk => hk.elim) (Nat.le_refl _) (Below.refl _ _) (Nat.le_refl _) (by simp) ?_; (case hd => rfl); (case hg => rfl); (case hr => first | (go_simp; done) | (go_simp; rfl)); (case hp => exact Reps.one (show [Value.string x] = [Value.string x] from rfl) (Reps.none _ _)); intro v1 w1 hR1 hb1 hg1 hnew1; have k0 := (hb1.cell (p := ⟨L.g, 0, none⟩) lg).trans c0; have k1 := (hb1.cell (p := ⟨L.g, 1, none⟩) lg).trans c1; have ko := (hb1.cell (p := ⟨L.ob, n, none⟩) lo).trans co; have HR1 := Aside0.mk hR1; have HB1 := Aside0.mk hb1; have HG1 := Aside0.mk hg1; have HNEW1 := Aside0.mk hnew1; clear hR1 hb1 hg1 hnew1) | (at_builtin; with_reducible refine stopHere ?_))
    refine ⟨?_⟩
    refine Kd.R_append_rows Kd.string (w0 := W) W.heap.size rfl (.tmp 19) (.tmp 26) 26 9 (.string ⟨#[]⟩) 16 rfl Try.underlying26 info9 rfl (by decide) (by omega) v1 [x] y A y.length c (fun k => W.heap.size ≤ k) (fun _ => False) rfl rfl HR1.out (Kd.C_below HC.out HB1.out) (fun _ _ h => h) (fun _ h => h.elim) (fun k hk => Nat.le_trans HB1.out.size hk) HB1.out HB1.out.size (by show (1 + y.length) * 16 ≤ _; omega) ?_
    intro v2 w2 hR2 hb2 hg2 hat2
    obtain ⟨l, hl⟩ : ∃ l, l = [x] ++ y := ⟨_, rfl⟩
    rw [← hl] at hR2
    have hl1 : l.length ≤ 9 := by rw [hl]; simp; omega
    obtain ⟨A2, c2, hv2, hl2, hC2⟩ := Kd.R_reads hR2
    subst hv2
    have k0 := (hb2.cell (p := ⟨L.g, 0, none⟩) lg).trans c0
    have k1 := (hb2.cell (p := ⟨L.g, 1, none⟩) lg).trans c1
    have ko := (hb2.cell (p := ⟨L.ob, n, none⟩) lo).trans co
    have HL := Aside0.mk hl
    have HR2 := Aside0.mk hR2
    have HB2 := Aside0.mk hb2
    have HG2 := Aside0.mk hg2
    have HAT2 := Aside0.mk hat2
    have hP2 := HP.out.below hb2
    have ks := hP2.cs n HN.out
    have fo : w2.frozen? ⟨L.ob, n, none⟩ = false := blk_frozen hP2.ho n
    have fs : w2.frozen? ⟨L.sb, n, none⟩ = false := blk_frozen hP2.hs n
    have ne1 : L.ob ≠ L.sb := blk_ne hP2.ho hP2.hs (by decide)
    have ne2 : L.sb ≠ L.ob := fun e => ne1 e.symm
    have ne3 : L.g ≠ L.ob := blk_ne hP2.hg hP2.ho (by decide)
    have ne4 : L.ob ≠ L.g := fun e => ne3 e.symm
    have HF2 := Aside0.mk (Kd.R_F hR2)
    clear hl hR2 hb2 hg2 hat2 hC2 hP2
    by_cases h8 : (8 : Int) < (l.length : Int)
    · have h82 : (8 : Int) ≤ (c2 : Int) := by omega
      go_wp2_with fail
      go_region
      go_wp2_with fail
      go_end0
      have hl := HL.out
      have e8 : (x :: y).take 8 = l.take 8 := by rw [hl]; rfl
      rw [e8]
      have e9 : (l.take 8).length = 8 := by rw [List.length_take]; omega
      have hv : Kd.V Kd.string 9 w2 0 (fun k => W.heap.size ≤ k) (.slice A2 8 c2) (l.take 8) := ⟨A2, c2, by rw [e9], by omega, Kd.F_take HF2.out (by omega)⟩
      exact ⟨rfl, (HP.out.change HB2.out n _ _ hv d).drew⟩
    · have h9 : (l.length : Int) ≤ (c2 : Int) := by omega
      go_wp2_with fail
      go_region
      go_wp2_with fail
      go_end0
      have hl := HL.out
      have e8 : (x :: y).take 8 = l := by rw [show x :: y = l from hl.symm]; exact List.take_of_length_le (by omega)
      rw [e8]
      have hv : Kd.V Kd.string 9 w2 0 (fun k => W.heap.size ≤ k) (.slice A2 l.length c2) l := ⟨A2, c2, rfl, by omega, HF2.out⟩
      exact ⟨rfl, (HP.out.change HB2.out n _ _ hv d).drew⟩
end
end Go.Proofs.Ytflajmgichdhhaa.PG
