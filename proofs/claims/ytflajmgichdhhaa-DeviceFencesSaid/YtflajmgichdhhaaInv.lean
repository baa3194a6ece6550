/- A device and blocks beside it, held through calls. -/
import Derived.Test.YtflajmgichdhhaaBegin
import Derived.BigQuiet


namespace Go.Proofs.Ytflajmgichdhhaa.PG
open Go.RowKit Go.Proofs.YtflajmgichdhhaaW.PrintWords Go.Proofs.YtflajmgichdhhaaW.PrintLast Go.Proofs.YtflajmgichdhhaaW.PrintMore

set_option linter.unusedVariables false
set_option linter.unusedSimpArgs false
/-! ### a device and some blocks beside it, held through calls -/
def Inv (W0 : World) (L : Lay) (K : List (Nat × Obj)) (S : DevS) (W1 : World) : Prop := ∃ F, DevIs W1 W0.heap.size L F S ∧ (∀ p ∈ K, W1.heap[p.1]? = some p.2 ∧ ¬ F p.1) ∧ Below W0.heap.size W0 W1
section
variable {W0 W1 W2 : World} {L : Lay} {K : List (Nat × Obj)} {S S' : DevS} {k : Nat}
theorem Inv.bel (h : Inv W0 L K S W1) : Below W0.heap.size W0 W1 := by obtain ⟨F, _, _, h⟩ := h; exact h
theorem Inv.below (h : Inv W0 L K S W1) (hb : Below W1.heap.size W1 W2) : Inv W0 L K S W2 := by
  obtain ⟨F, h1, h2, h3⟩ := h
  exact ⟨F, h1.below hb, fun p hp => ⟨blk_below (h2 p hp).1 hb, (h2 p hp).2⟩, h3.trans (hb.mono h3.size)⟩
theorem Inv.blk (h : Inv W0 L K S W1) {b : Nat} {o : Obj} (hp : (b, o) ∈ K) : W1.heap[b]? = some o := by
  obtain ⟨F, _, h2, _⟩ := h
  exact (h2 _ hp).1
theorem Inv.add (h : Inv W0 L K S W1) (o : Obj) : Inv W0 L ((W1.heap.size, o) :: K) S (W1.alloc o) := by
  obtain ⟨F, h1, h2, h3⟩ := h
  have hb := below_alloc (Below.refl W1.heap.size W1) o
  refine ⟨F, h1.below hb, fun p hp => ?_, h3.trans (hb.mono h3.size)⟩
  rcases List.mem_cons.1 hp with hp | hp
  · rw [hp]
    exact ⟨blk_new _ _, fun z => by have := (h1.range _ z).2; simp at this⟩
  · exact ⟨blk_below (h2 p hp).1 hb, (h2 p hp).2⟩
theorem Inv.start {L : Lay} {F : Nat → Prop} (h : DevIs W1 W0.heap.size L F S) (hb : Below W0.heap.size W0 W1) : Inv W0 L [] S W1 := ⟨F, h, (fun p hp => by cases hp), hb⟩
theorem Inv.post {P : Program} {f : FuncId} {args : Array Value} {E : Ending} (h : Inv W0 L K S W1) (hc : ∀ F, DevIs W1 W0.heap.size L F S → Calls P f args W1 fun e W' => e = E ∧ DevPost W0.heap.size L F S' W1 W') :
    Calls P f args W1 fun e W' => e = E ∧ Inv W0 L K S' W' := by
  obtain ⟨F, h1, h2, h3⟩ := h
  refine (hc F h1).mono ?_
  rintro e W' ⟨he, hpo⟩
  obtain ⟨F', g1, g2, g3, _⟩ := hpo.keep
  exact ⟨he, F', g1, fun p hp => g2 _ _ (h2 p hp).1 (h2 p hp).2, h3.trans g3⟩
theorem Inv.write (h : Inv W0 L K S W1) (hf : Fine k S) (hk : k ≤ 1000000) (hsl : S.surv.length ≤ 4611686018427387904) (sys ep sec : Int) (d : ByteArray) {r : Int} (hr : writeS S sys ep sec d = (r, S')) :
    Calls Try.prog 20 #[.pointer (some ⟨L.g, 0, none⟩), .agg #[.int .i64 sys, .int .i64 ep], .int .i64 sec, .string d] W1 fun e W' => e = .returned (.int .i64 r) ∧ Inv W0 L K S' W' :=
  h.post (fun F hI => by have := write_calls hI hf hk hsl sys ep sec d; rw [hr] at this; exact this)
theorem Inv.sync (h : Inv W0 L K S W1) (hf : Fine k S) (hk : k ≤ 1000000) (hsl : S.surv.length ≤ 4611686018427387904) (sys ep : Int) {r : Int} (hr : syncS S sys ep = (r, S')) :
    Calls Try.prog 21 #[.pointer (some ⟨L.g, 0, none⟩), .agg #[.int .i64 sys, .int .i64 ep]] W1 fun e W' => e = .returned (.int .i64 r) ∧ Inv W0 L K S' W' :=
  h.post (fun F hI => by have := sync_calls hI hf hk hsl sys ep; rw [hr] at this; exact this)
theorem Inv.crash (h : Inv W0 L K S W1) (hf : Fine k S) (hk : k ≤ 1000000) (sys : Int) (A : Option Addr) (c : Nat) (l : List Int) (hC : Kd.C (Kd.int .i64) W0 A l.length l) (hlc : l.length ≤ c) (hlm : l.length ≤ 4611686018427387904) :
    Calls Try.prog 22 #[.pointer (some ⟨L.g, 0, none⟩), .int .i64 sys, .slice A l.length c] W1 fun e W' => e = .returned (.tuple #[]) ∧ Inv W0 L K (finishS (isOf sys) l S) W' := by
  have hb := h.bel
  refine h.post (fun F hI => crash_calls hI hf hk sys A c l ?_ hlc hlm)
  exact Kd.F_mono (Kd.F_below (Kd.C_F (Kd.heap_int _) hC) hb) (fun k hk z => by have := (hI.range _ z).1; omega)
theorem Inv.fence (h : Inv W0 L K S W1) (sys ep : Int) :
    Calls Try.prog 27 #[.pointer (some ⟨L.g, 0, none⟩), .int .i64 sys, .int .i64 ep] W1 fun e W' => e = .returned (.tuple #[]) ∧ Inv W0 L K (fenceS S sys ep) W' :=
  h.post (fun F hI => fence_calls hI sys ep)
theorem Inv.ret (h : Inv W0 L K S W1) (hf : Fine k S) (sec back : Int) {r : Int} (hr : returnS S sec back = (r, S')) :
    Calls Try.prog 26 #[.pointer (some ⟨L.g, 0, none⟩), .int .i64 sec, .int .i64 back] W1 fun e W' => e = .returned (.int .i64 r) ∧ Inv W0 L K S' W' :=
  h.post (fun F hI => by have := return_calls hI hf sec back; rw [hr] at this; exact this)
theorem Inv.read (h : Inv W0 L K S W1) (hpl : S.pend.length ≤ 1000000) (i : Int) {d : ByteArray} {r : Int} (hr : readS S i = (d, r)) :
    Calls Try.prog 23 #[.pointer (some ⟨L.g, 0, none⟩), .int .i64 i] W1 fun e W' => e = .returned (.tuple #[.string d, .int .i64 r]) ∧ W1 = W' := by
  obtain ⟨F, h1, _⟩ := h
  have := readI h1 hpl i
  rw [hr] at this
  exact this
theorem Inv.pend (h : Inv W0 L K S W1) (hpl : S.pend.length ≤ 1000000) (i : Int) {n : Nat} (hn : pendN S i = n) :
    Calls Try.prog 24 #[.pointer (some ⟨L.g, 0, none⟩), .int .i64 i] W1 fun e W' => e = .returned (.int .i64 (n : Int)) ∧ Inv W0 L K S W' := by
  have h' := h
  obtain ⟨F, h1, _⟩ := h
  have := pendI h1 hpl i
  rw [hn] at this
  refine this.mono ?_
  rintro e W' ⟨he, hb⟩
  exact ⟨he, h'.below hb⟩
theorem Inv.oldc (h : Inv W0 L K S W1) (hf : Fine k S) (i : Int) :
    Calls Try.prog 25 #[.pointer (some ⟨L.g, 0, none⟩), .int .i64 i] W1 fun e W' => e = .returned (.int .i64 (oldN S i)) ∧ W1 = W' := by
  obtain ⟨F, h1, _⟩ := h
  exact oldI h1 hf.len i
end
end Go.Proofs.Ytflajmgichdhhaa.PG
