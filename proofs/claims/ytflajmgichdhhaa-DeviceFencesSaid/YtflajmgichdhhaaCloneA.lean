/- slices.Clone of writes and strings; range over a map of numbers. -/
import Derived.Test.YtflajmgichdhhaaAwake
import Derived.BigQuiet

import Derived.Maps.RangeWalk
namespace Go.Proofs.Ytflajmgichdhhaa.PG
open Go.RowKit Go.Proofs.YtflajmgichdhhaaW.PrintWords Go.Proofs.YtflajmgichdhhaaW.PrintLast Go.Proofs.YtflajmgichdhhaaW.PrintMore

set_option linter.unusedVariables false
set_option linter.unusedSimpArgs false
open Go.ChangeMaps (setBlock)
attribute [local go_sem] max2_int min2_int max_two min_two
/-! ### slices.Clone of writes and of strings -/
theorem nil76 (w : World) (n c : Nat) : (binOp .eql 76 (.slice none n c) (.slice none 0 0)).run Try.prog w = .ok (.bool true) w := by kernel_rfl
theorem some76 (w : World) (ad : Addr) (n c : Nat) : (binOp .eql 76 (.slice (some ad) n c) (.slice none 0 0)).run Try.prog w = .ok (.bool false) w := by kernel_rfl
set_option maxRecDepth 100000 in
theorem clone44 (W : World) (A : Option Addr) (c : Nat) (l : List S99) (hC : Kd.C k99 W A l.length l) (hl : l.length ≤ 1000000) :
    Calls Try.prog 44 #[.slice A l.length c] W fun e W' => ∃ v, e = .returned v ∧ Kd.R k99 84 W' W.heap.size (fun k => W.heap.size ≤ k) v l ∧ Below W.heap.size W W' := by
  cases A with
  | none =>
    have h0 : l = [] := by
      rcases Nat.eq_zero_or_pos l.length with h | h
      · exact List.eq_nil_of_length_eq_zero h
      · obtain ⟨ad, e, _⟩ := hC.2.2 h
        cases e
    subst h0
    have hn := nil76
    clear hC
    go_enter Try.func44, Try.ntmps44
    go_wp2_with fail
    go_ret
    exact ⟨_, rfl, Kd.R_nil _ _ _ _ _, Below.refl _ _⟩
  | some ad =>
    have hs := some76
    have HC := Aside0.mk hC
    clear hC
    go_enter Try.func44, Try.ntmps44
    go_wp2_with (at_builtin; with_reducible refine stopHere ?_)
    refine ⟨?_⟩
    have hO : Kd.R k99 84 (W.alloc (.cells #[] 84)) W.heap.size (fun k => W.heap.size ≤ k) (.slice (some ⟨W.heap.size, 0, none⟩) 0 0) [] := by
      refine ⟨fun k hk => ?_, [], ⟨rfl, Or.inr ⟨W.heap.size, 0, #[], rfl, Nat.le_refl _, blk_new _ _, Nat.le_refl _, Nat.zero_le _, rfl, rfl⟩⟩, Reps.none _ _⟩
      simp [Value.ownBlock] at hk
      omega
    refine Kd.R_append_rows k99 (w0 := W) W.heap.size rfl (.tmp 5) (.tmp 6) 76 84 (.agg #[.int .i64 0, .int .i64 0, .string ⟨#[]⟩]) 32 rfl Try.underlying76 info84 rfl (by decide) (by omega) _ [] l (some ad) l.length c (fun k => W.heap.size ≤ k) (fun _ => False) rfl rfl hO (Kd.C_alloc HC.out _) (fun x cs h => by rw [k99_open h]; exact k99_mkM _ _ _ x) (fun _ h => h.elim) (fun k hk => by simp at hk; omega) (below_alloc (Below.refl _ _) _) (by simp) (by simp; omega) ?_
    intro v1 w1 hR hb hg hat
    have HR := Aside0.mk hR
    have HB := Aside0.mk hb
    clear hR hb hg hat hO
    go_wp2_with fail
    go_ret
    exact ⟨v1, rfl, HR.out, HB.out⟩
theorem nil26 (w : World) (n c : Nat) : (binOp .eql 26 (.slice none n c) (.slice none 0 0)).run Try.prog w = .ok (.bool true) w := by kernel_rfl
theorem some26 (w : World) (ad : Addr) (n c : Nat) : (binOp .eql 26 (.slice (some ad) n c) (.slice none 0 0)).run Try.prog w = .ok (.bool false) w := by kernel_rfl
set_option maxRecDepth 100000 in
theorem clone45 (W : World) (A : Option Addr) (c : Nat) (l : List ByteArray) (hC : Kd.C Kd.string W A l.length l) (hl : l.length ≤ 1000000) :
    Calls Try.prog 45 #[.slice A l.length c] W fun e W' => ∃ v, e = .returned v ∧ Kd.R Kd.string 9 W' W.heap.size (fun k => W.heap.size ≤ k) v l ∧ Below W.heap.size W W' := by
  cases A with
  | none =>
    have h0 : l = [] := by
      rcases Nat.eq_zero_or_pos l.length with h | h
      · exact List.eq_nil_of_length_eq_zero h
      · obtain ⟨ad, e, _⟩ := hC.2.2 h
        cases e
    subst h0
    have hn := nil26
    clear hC
    go_enter Try.func45, Try.ntmps45
    go_wp2_with fail
    go_ret
    exact ⟨_, rfl, Kd.R_nil _ _ _ _ _, Below.refl _ _⟩
  | some ad =>
    have hs := some26
    have HC := Aside0.mk hC
    clear hC
    go_enter Try.func45, Try.ntmps45
    go_wp2_with (at_builtin; with_reducible refine stopHere ?_)
    refine ⟨?_⟩
    have hO : Kd.R Kd.string 9 (W.alloc (.cells #[] 9)) W.heap.size (fun k => W.heap.size ≤ k) (.slice (some ⟨W.heap.size, 0, none⟩) 0 0) [] := by
      refine ⟨fun k hk => ?_, [], ⟨rfl, Or.inr ⟨W.heap.size, 0, #[], rfl, Nat.le_refl _, blk_new _ _, Nat.le_refl _, Nat.zero_le _, rfl, rfl⟩⟩, Reps.none _ _⟩
      simp [Value.ownBlock] at hk
      omega
    refine Kd.R_append_rows Kd.string (w0 := W) W.heap.size rfl (.tmp 5) (.tmp 6) 26 9 (.string ⟨#[]⟩) 16 rfl Try.underlying26 info9 rfl (by decide) (by omega) _ [] l (some ad) l.length c (fun k => W.heap.size ≤ k) (fun _ => False) rfl rfl hO (Kd.C_alloc HC.out _) (fun _ _ h => h) (fun _ h => h.elim) (fun k hk => by simp at hk; omega) (below_alloc (Below.refl _ _) _) (by simp) (by simp; omega) ?_
    intro v1 w1 hR hb hg hat
    have HR := Aside0.mk hR
    have HB := Aside0.mk hb
    clear hR hb hg hat hO
    go_wp2_with fail
    go_ret
    exact ⟨v1, rfl, HR.out, HB.out⟩
/-! ### range over a map of numbers -/
/-- A loop over map b is under way, its iterator in block r: lf tells of which keys the entry may still come; n entries are left. -/
def Rng (w : World) (b r : Nat) (m : Ents) (lf : Int → Bool) (n : Nat) : Prop :=
  ∃ es clock since seen c0, w.heap[b]? = some (.map es clock) ∧ es.toList.map entry = m.map (fun x => (encP x.1, encC x.2)) ∧ (keys m).Nodup ∧ MapKept.Stamped es clock ∧ w.heap[r]? = some (.mapIter (some b) since seen c0) ∧
    (∀ x ∈ es.toList, x.born < since) ∧ since ≤ c0 ∧ since ≤ clock ∧ (leftOf es seen).size = n ∧ ∀ x ∈ es.toList, ∀ a, x.key = encP a → lf a = !seen.contains x.born
theorem Rng.move {w w' : World} {b r : Nat} {m : Ents} {lf : Int → Bool} {n : Nat} (h : Rng w b r m lf n) (hb : w'.heap[b]? = w.heap[b]?) (hr : w'.heap[r]? = w.heap[r]?) : Rng w' b r m lf n := by
  obtain ⟨es, clock, since, seen, c0, h1, h2, h3, h4, h5, h6⟩ := h
  exact ⟨es, clock, since, seen, c0, hb.trans h1, h2, h3, h4, hr.trans h5, h6⟩
theorem Rng.isMap {w : World} {b r : Nat} {m : Ents} {lf : Int → Bool} {n : Nat} (h : Rng w b r m lf n) : MapIs w b m := by
  obtain ⟨es, clock, since, seen, c0, h1, h2, h3, h4, _⟩ := h
  exact ⟨es, clock, h1, h2, h3, h4⟩
theorem Rng.iter {w : World} {b r : Nat} {m : Ents} {lf : Int → Bool} {n : Nat} (h : Rng w b r m lf n) : ∃ x y z, w.heap[r]? = some (.mapIter (some b) x y z) := by
  obtain ⟨es, clock, since, seen, c0, _, _, _, _, h5, _⟩ := h
  exact ⟨since, seen, c0, h5⟩
theorem MapIs.range {w : World} {b : Nat} {m : Ents} (h : MapIs w b m) :
    ∃ o, (Instr.range 77 (.map (some b))).run Try.prog w = .ok (.pointer (some ⟨w.heap.size, 0, none⟩)) (w.alloc o) ∧ Rng (w.alloc o) b w.heap.size m (fun _ => true) m.length := by
  have hlt := h.lt
  obtain ⟨es, clock, hb, hes, hn, hst⟩ := h
  have hlen : es.toList.length = m.length := by have := congrArg List.length hes; simpa using this
  refine ⟨_, run_range_map w 77 3 3 b es clock Try.underlying77 hb, es, clock, clock, #[], clock, ((MapKept.heap_alloc w _).2 b hlt).trans hb, hes, hn, hst, (MapKept.heap_alloc w _).1, ((MapKept.stamped_iff es clock).1 hst).1, Nat.le_refl _, Nat.le_refl _, ?_, ?_⟩
  · have hz : leftOf es #[] = es := Array.filter_eq_self.2 (fun _ _ => by simp)
    rw [hz]
    simpa using hlen
  · intro x _ a _
    simp
theorem entry_of {es : List MapEntry} {m : Ents} (h : es.map entry = m.map (fun x => (encP x.1, encC x.2))) {x : MapEntry} (hx : x ∈ es) : ∃ a c, (a, c) ∈ m ∧ x.key = encP a ∧ x.val = encC c := by
  have h1 : entry x ∈ m.map (fun x => (encP x.1, encC x.2)) := by rw [← h]; exact List.mem_map_of_mem hx
  obtain ⟨y, hy, ey⟩ := List.mem_map.1 h1
  exact ⟨y.1, y.2, hy, (congrArg Prod.fst ey).symm, (congrArg Prod.snd ey).symm⟩
theorem entry_to {es : List MapEntry} {m : Ents} (h : es.map entry = m.map (fun x => (encP x.1, encC x.2))) {a : Int} (ha : a ∈ keys m) : ∃ x ∈ es, x.key = encP a := by
  obtain ⟨y, hy, ey⟩ := List.mem_map.1 ha
  have h1 : (encP y.1, encC y.2) ∈ es.map entry := by rw [h]; exact List.mem_map_of_mem (f := fun x : Int × Int => (encP x.1, encC x.2)) hy
  obtain ⟨x, hx, ex⟩ := List.mem_map.1 h1
  exact ⟨x, hx, by have := congrArg Prod.fst ex; rw [← ey]; exact this⟩
theorem look_mem {m : Ents} (hn : (keys m).Nodup) {a c : Int} (h : (a, c) ∈ m) : look a m = some c := by
  induction m with
  | nil => cases h
  | cons e m ih =>
    have hn' := List.nodup_cons.1 hn
    unfold look
    rcases List.mem_cons.1 h with rfl | h
    · rw [if_pos rfl]
    · rw [if_neg (fun z => hn'.1 (by show e.1 ∈ keys m; rw [z]; exact List.mem_map_of_mem (f := Prod.fst) h))]
      exact ih hn'.2 h
theorem Rng.next {w : World} {b r : Nat} {m : Ents} {lf : Int → Bool} {n : Nat} (h : Rng w b r m lf n) (ty : TypeId) :
    (n = 0 ∧ (∀ a ∈ keys m, lf a = false) ∧ (Instr.next (.pointer (some ⟨r, 0, none⟩)) false ty).run Try.prog w = .ok (.tuple #[.bool false]) w) ∨
    ∃ x c w' n', look x m = some c ∧ (Instr.next (.pointer (some ⟨r, 0, none⟩)) false ty).run Try.prog w = .ok (.tuple #[.bool true, encP x, encC c]) w' ∧ Rng w' b r m (fun a => lf a && !decide (a = x)) n' ∧ n' < n ∧ w.grownBy w' (some r) ∧ w'.heap.size = w.heap.size ∧
      (Instr.entry (.pointer (some ⟨r, 0, none⟩))).run Try.prog w' = .ok (.tuple #[encP x, encC c]) w' := by
  obtain ⟨es, clock, since, seen, c0, hb, hes, hn, hst, hr, hold, hsc, hsk, rfl, hlf⟩ := h
  have hne : r ≠ b := fun e => by rw [e, hb] at hr; cases hr
  have hst3 := (MapKept.stamped_iff es clock).1 hst
  rcases run_next_at (P := Try.prog) w ty r b since c0 seen es clock hr hb hold hsc with ⟨h0, hrun⟩ | ⟨e, he, w1, hal, hrun⟩
  · refine Or.inl ⟨h0, fun a ha => ?_, hrun⟩
    obtain ⟨x, hx, ex⟩ := entry_to hes ha
    rw [hlf x hx a ex, all_seen es seen h0 x hx]
    rfl
  · obtain ⟨hem, hsn⟩ := mem_left he
    obtain ⟨a, c, hac, ek, ev⟩ := entry_of hes hem
    have hr1 : w1.heap[r]? = some (.mapIter (some b) since seen c0) := by rcases hal with rfl | rfl <;> exact hr
    have hb1 : w1.heap[b]? = some (.map es clock) := by rcases hal with rfl | rfl <;> exact hb
    have hlt : r < w1.heap.size := (Array.getElem?_eq_some_iff.1 hr1).1
    have hsr : (setBlock w1 r (.mapIter (some b) since (seen.push e.born) clock)).heap[r]? = some (.mapIter (some b) since (seen.push e.born) clock) := by simp [setBlock, Array.getElem?_setIfInBounds, hlt]
    have hso : ∀ k, k ≠ r → (setBlock w1 r (.mapIter (some b) since (seen.push e.born) clock)).heap[k]? = w1.heap[k]? := fun k hk => by simp [setBlock, Array.getElem?_setIfInBounds, Ne.symm hk]
    have hsb := (hso b (Ne.symm hne)).trans hb1
    rw [ek, ev] at hrun
    refine Or.inr ⟨a, c, _, _, look_mem hn hac, hrun, ⟨es, clock, since, seen.push e.born, clock, hsb, hes, hn, hst, hsr, hold, hsk, hsk, rfl, fun x hx a' ea => ?_⟩, left_shrinks es seen e he, ?_, ?_, ?_⟩
    · show (lf a' && !decide (a' = a)) = _
      rw [hlf x hx a' ea]
      have hbe : (x.born == e.born) = decide (a' = a) := by
        by_cases hq : x.born = e.born
        · have hxe : x = e := born_inj hst3.2.1 hx hem hq
          have h1 : encP a' = encP a := by rw [← ea, hxe, ek]
          have : a' = a := by unfold encP at h1; injection h1
          simp [hq, this]
        · have : ¬ a' = a := fun z => hq (by
            have hk : x.key = e.key := by rw [ea, ek, z]
            exact congrArg MapEntry.born (entry_eq_of_key hst3.2.2 hx hem hk))
          simp [hq, this]
      rw [contains_push, ← hbe]
      cases seen.contains x.born <;> cases (x.born == e.born) <;> rfl
    · rcases hal with rfl | rfl <;> exact ⟨rfl, rfl, rfl, by simp [setBlock], fun i _ hi => hso i (fun e1 => hi (by rw [e1]))⟩
    · rcases hal with rfl | rfl <;> simp [setBlock]
    · have := run_entry_at (P := Try.prog) _ r b since seen es clock e hsr hsb hem hst3.2.1
      rw [ek, ev] at this
      exact this
end Go.Proofs.Ytflajmgichdhhaa.PG
