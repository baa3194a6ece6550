/- New: a device of zeros. -/
import Derived.Test.YtflajmgichdhhaaFence
import Derived.BigQuiet


namespace Go.Proofs.Ytflajmgichdhhaa.PG
open Go.RowKit Go.Proofs.YtflajmgichdhhaaW.PrintWords Go.Proofs.YtflajmgichdhhaaW.PrintLast Go.Proofs.YtflajmgichdhhaaW.PrintMore

set_option linter.unusedVariables false
set_option linter.unusedSimpArgs false
/-! ### New -/
def zeros140 : ByteArray := ⟨(List.replicate 140 0).toArray⟩
def newS (n : Nat) : DevS := ⟨List.replicate n zeros140, List.replicate n [], [], fun _ => none, false, 0, [], false⟩
theorem makeMap77 (w : World) : (Instr.makeMap 77 none).run Try.prog w = .ok (.map (some w.heap.size)) (w.alloc (.map #[] 0)) := by
  simp [Instr.makeMap]
theorem four (W : World) (a b c d : Obj) : ((((W.alloc a).alloc b).alloc c).alloc d).drew.heap[W.heap.size]? = some a ∧ ((((W.alloc a).alloc b).alloc c).alloc d).drew.heap[W.heap.size + 1]? = some b ∧
    ((((W.alloc a).alloc b).alloc c).alloc d).drew.heap[W.heap.size + 1 + 1]? = some c ∧ ((((W.alloc a).alloc b).alloc c).alloc d).drew.heap[W.heap.size + 1 + 1 + 1]? = some d ∧ ((((W.alloc a).alloc b).alloc c).alloc d).drew.heap.size = W.heap.size + 4 ∧
    Below W.heap.size W ((((W.alloc a).alloc b).alloc c).alloc d).drew := by
  have e1 : (W.alloc a).heap.size = W.heap.size + 1 := by simp
  have e2 : ((W.alloc a).alloc b).heap.size = W.heap.size + 1 + 1 := by simp
  have e3 : (((W.alloc a).alloc b).alloc c).heap.size = W.heap.size + 1 + 1 + 1 := by simp
  have n1 := blk_new (W.alloc a) b
  have n2 := blk_new ((W.alloc a).alloc b) c
  have n3 := blk_new (((W.alloc a).alloc b).alloc c) d
  rw [e1] at n1
  rw [e2] at n2
  rw [e3] at n3
  exact ⟨blk_alloc (blk_alloc (blk_alloc (blk_new _ _) _) _) _, blk_alloc (blk_alloc n1 _) _, blk_alloc n2 _, n3, by simp [World.drew], (below_alloc (below_alloc (below_alloc (below_alloc (Below.refl _ _) _) _) _) _).drew⟩
theorem made_strs (n : Nat) : madeCells #[.string ⟨#[]⟩] n = strs (List.replicate n ⟨#[]⟩) := by
  rw [made_one, strs, List.map_replicate]
def nils (n : Nat) : Array Value := (List.replicate n (Value.slice none 0 0)).toArray
theorem made_nils (n : Nat) : madeCells #[.slice none 0 0] n = nils n := made_one _ _
theorem zero_str : strOfNums (List.replicate 140 0) = zeros140 := by
  unfold strOfNums zeros140
  rw [List.map_replicate]
  rfl
theorem made_reads (W : World) : Kd.C (Kd.int .u8) (W.alloc (.cells (madeCells #[.int .u8 0] 140) 5)) (some ⟨W.heap.size, 0, none⟩) 140 (List.replicate 140 0) := by
  refine ⟨by simp, by decide, fun _ => ⟨_, rfl, fun j p hj => ⟨[.int .u8 0], rfl, ?_, fun i u hi => ?_⟩⟩⟩
  · have := List.getElem?_replicate (a := (0 : Int)) (n := 140) (i := j)
    rw [hj] at this
    split at this
    · cases this; rfl
    · cases this
  · match i with
    | 0 =>
      cases hi
      have e : (⟨W.heap.size, 0, none⟩ : Addr).add (j * (Kd.int .u8).sz + 0) = ⟨W.heap.size, j, none⟩ := by
        show (⟨W.heap.size, 0, none⟩ : Addr).add (j * 1 + 0) = _
        rw [Nat.mul_one, Nat.add_zero, add_plain]
      obtain ⟨hjl, _⟩ := List.getElem?_eq_some_iff.1 hj
      rw [e, blk_cell (blk_new _ _), made_one, List.getElem?_toArray, List.getElem?_replicate, if_pos (by simpa using hjl)]
    | i + 1 => cases hi
/-- What New has made, block by block. -/
theorem newAt {W W4 : World} {n : Nat} {L : Lay} (h1 : 1 ≤ n) (hg : W4.heap[L.g]? = some (.cells (gcells L (.slice none 0 0) (.slice none 0 0) (newS n)) 81 (0, 0))) (hs : W4.heap[L.sb]? = some (.cells (strs (List.replicate n zeros140)) 9 (0, 0)))
    (ho : W4.heap[L.ob]? = some (.cells (nils n) 26 (0, 0))) (hm : W4.heap[L.bm]? = some (.map #[] 0)) (hr : ∀ k, (k = L.g ∨ k = L.sb ∨ k = L.ob ∨ k = L.bm) → W.heap.size ≤ k) :
    DevIs W4 W.heap.size L (fun k => k = L.g ∨ k = L.sb ∨ k = L.ob ∨ k = L.bm) (newS n) :=
  ⟨List.replicate n (.slice none 0 0), .slice none 0 0, .slice none 0 0, [],
    { hg := hg
      hs := hs
      ho := ho
      hvl := by simp [newS]
      hv := fun i v x h1 h2 => by
        have e1 : v = .slice none 0 0 := by
          rw [List.getElem?_replicate] at h1
          split at h1
          · cases h1; rfl
          · cases h1
        have e2 : x = [] := by
          have h2 : (List.replicate n ([] : List ByteArray))[i]? = some x := h2
          rw [List.getElem?_replicate] at h2
          split at h2
          · cases h2; rfl
          · cases h2
        rw [e1, e2]
        exact Kd.V_nil _ _ _ _ _
      hp := Kd.R_nil _ _ _ _ _
      hm := ⟨#[], 0, hm, rfl, List.nodup_nil, MapKept.stamped_empty 0⟩
      hl := fun a => rfl
      hu := Kd.V_nil _ _ _ _ _
      hF := ⟨Or.inl rfl, Or.inr (Or.inl rfl), Or.inr (Or.inr (Or.inl rfl)), Or.inr (Or.inr (Or.inr rfl))⟩
      hr := fun k hk => ⟨hr k hk, by
        rcases hk with e | e | e | e
        · rw [e]; exact blk_lt hg
        · rw [e]; exact blk_lt hs
        · rw [e]; exact blk_lt ho
        · rw [e]; exact (Array.getElem?_eq_some_iff.1 hm).1⟩ }⟩
def NewPost (n : Nat) (W : World) (e : Ending) (W' : World) : Prop := ∃ L F, e = .returned (.tuple #[.pointer (some ⟨L.g, 0, none⟩), .int .i64 0]) ∧ DevIs W' W.heap.size L F (newS n) ∧ Below W.heap.size W W'
set_option maxHeartbeats 2000000 in
set_option maxRecDepth 100000 in
theorem new_calls (W : World) (n : Nat) (h1 : 1 ≤ n) (h2 : n ≤ 1155) :
    Calls Try.prog 17 #[.int .i64 n] W fun e W' => NewPost n W e W' := by
  have hd1 : decide ((n : Int) < 1) = false := decide_eq_false (by omega)
  have hd2 : decide (1155 < (n : Int)) = false := decide_eq_false (by omega)
  have hm1 := print_make_int (P := Try.prog) 26 9 (.string ⟨#[]⟩) 16 Try.underlying26 info9 rfl (by decide) (n : Int) (by omega) (by rw [Int.toNat_natCast]; omega)
  have hm2 := print_make_int (P := Try.prog) 27 26 (.slice none 0 0) 24 Try.underlying27 info26 rfl (by decide) (n : Int) (by omega) (by rw [Int.toNat_natCast]; omega)
  rw [Int.toNat_natCast] at hm1 hm2
  have hk := makeMap77
  have hm3 := print_make_int (P := Try.prog) 87 5 (.int .u8 0) 1 Try.underlying87 (by kernel_rfl) rfl (by decide) (140 : Int) (by omega) (by decide)
  have hcv : ∀ W1 : World, (convert 87 9 (.slice (some ⟨W1.heap.size, 0, none⟩) 140 140)).run Try.prog (W1.alloc (.cells (madeCells #[.int .u8 0] 140) 5)) = .ok (.string zeros140) (W1.alloc (.cells (madeCells #[.int .u8 0] 140) 5)) := fun W1 => by
    have h := Kd.C_string (P := Try.prog) (src := 87) (dst := 9) (c := 140) Try.underlying87 Try.underlying5 Try.underlying9 (made_reads W1)
    rw [zero_str] at h
    exact h
  rw [made_strs] at hm1
  rw [made_nils] at hm2
  have hn1 : (1 : Int) ≤ (n : Int) := by omega
  go_enter Try.func17, Try.ntmps17
  go_wp2_with fail
  go_region
  · obtain ⟨f0, f1, f2, f3, fs, fb⟩ := four W (.cells (strs (List.replicate n ⟨#[]⟩)) 9) (.cells (nils n) 26) (.map #[] 0) (.cells #[.slice (some ⟨W.heap.size, 0, none⟩) n n, .slice (some ⟨W.heap.size + 1, 0, none⟩) n n, .slice none 0 0, .map (some (W.heap.size + 1 + 1)), .bool false, .int .i64 0, .slice none 0 0, .bool false] 81)
    obtain ⟨W4, hW4⟩ : ∃ W4, W4 = ((((W.alloc (.cells (strs (List.replicate n ⟨#[]⟩)) 9)).alloc (.cells (nils n) 26)).alloc (.map #[] 0)).alloc (.cells #[.slice (some ⟨W.heap.size, 0, none⟩) n n, .slice (some ⟨W.heap.size + 1, 0, none⟩) n n, .slice none 0 0, .map (some (W.heap.size + 1 + 1)), .bool false, .int .i64 0, .slice none 0 0, .bool false] 81)).drew := ⟨_, rfl⟩
    rw [← hW4] at f0 f1 f2 f3 fs fb ⊢
    have HFB := Aside0.mk fb
    obtain ⟨sb, hsb⟩ : ∃ sb, sb = W.heap.size := ⟨_, rfl⟩
    obtain ⟨ob, hob⟩ : ∃ ob, ob = W.heap.size + 1 := ⟨_, rfl⟩
    obtain ⟨bm, hbm⟩ : ∃ bm, bm = W.heap.size + 1 + 1 := ⟨_, rfl⟩
    obtain ⟨g, hg⟩ : ∃ g, g = W.heap.size + 1 + 1 + 1 := ⟨_, rfl⟩
    rw [← hg] at f3 ⊢
    rw [← hbm, ← hob, ← hsb] at f3 ⊢
    rw [← hsb] at f0
    rw [← hob] at f1
    rw [← hbm] at f2
    have FS := Aside0.mk f0
    have FO := Aside0.mk f1
    have FM := Aside0.mk f2
    have FG := Aside0.mk f3
    have HR := Aside0.mk (show ∀ k, (k = g ∨ k = sb ∨ k = ob ∨ k = bm) → W.heap.size ≤ k from fun k hk => by rcases hk with e | e | e | e <;> omega)
    have lg : g < W4.heap.size := blk_lt f3
    have c0 : W4.cell? ⟨g, 0, none⟩ = some (.slice (some ⟨sb, 0, none⟩) n n) := by rw [blk_cell f3]; rfl
    have hsg : sb ≠ g := blk_ne FS.out FG.out (by decide)
    have hso : sb ≠ ob := blk_ne FS.out FO.out (by decide)
    have hsm : sb ≠ bm := fun e => by have h1 := FS.out; rw [e] at h1; have h2 := h1.symm.trans FM.out; cases h2
    have hgs : g ≠ sb := fun e => hsg e.symm
    have HSO := Aside0.mk hso
    have HSM := Aside0.mk hsm
    clear f0 f1 f2 f3 fs fb hsb hob hbm hg hW4 hm1 hm2 hso hsm hk
    go_wp2_with fail
    obtain ⟨W5, hW5⟩ : ∃ W5, W5 = W4.alloc (.cells (madeCells #[.int .u8 0] 140) 5) := ⟨_, rfl⟩
    have HB5 := Aside0.mk (show Below W4.heap.size W4 W5 by rw [hW5]; exact below_alloc (Below.refl _ _) _)
    have c05 : W5.cell? ⟨g, 0, none⟩ = some (.slice (some ⟨sb, 0, none⟩) n n) := (HB5.out.cell (p := ⟨g, 0, none⟩) lg).trans c0
    rw [← hW5]
    have HG5 := Aside0.mk (blk_below FG.out HB5.out)
    have HS5 := Aside0.mk (blk_below FS.out HB5.out)
    clear hW5 hm3 hcv c0
    go_loopg [6, 27] n (fun gg _ s27 wr => ∃ (j : Nat) (l : List ByteArray), s27 = .int .i64 j ∧ j ≤ n ∧ n - j ≤ gg ∧ Aside0 (l.length = n) ∧ Aside0 (∀ i, i < j → l[i]? = some zeros140) ∧ Aside0 (wr.heap[sb]? = some (.cells (strs l) 9 (0, 0))) ∧ Aside0 (Kept W4 wr (fun k => k = sb)) ∧ Aside0 (Below W.heap.size W wr))
    case atStart => exact ⟨0, List.replicate n ⟨#[]⟩, by go_num, Nat.zero_le _, by omega, ⟨by simp⟩, ⟨fun i hi => by omega⟩, HS5, ⟨Kept.of_below HB5.out _⟩, ⟨below_step HFB.out HB5.out⟩⟩
    case round =>
      obtain ⟨j, l, rfl, hj, hgg, HLL, HLI, HXR, HKR, HBR⟩ := hrel
      have hgr := blk_kept FG.out HKR.out hgs
      have cg : wr.cell? ⟨g, 0, none⟩ = some (.slice (some ⟨sb, 0, none⟩) n n) := by rw [blk_cell hgr]; rfl
      have HGR := Aside0.mk hgr
      clear hgr
      by_cases hlt : j < n
      · have hltz : (j : Int) < (n : Int) := by omega
        have cj : wr.cell? ⟨sb, j, none⟩ = some (.string (l[j]'(by have := HLL.out; omega))) := by rw [blk_cell HXR.out]; exact strs_at l j (by have := HLL.out; omega)
        have fj : wr.frozen? ⟨sb, j, none⟩ = false := blk_frozen HXR.out j
        go_wp2_with fail
        go_roundg (n - (j + 1))
        case measure => omega
        case rel =>
          refine ⟨j + 1, l.set j zeros140, by go_num, by omega, Nat.le_refl _, ⟨by rw [List.length_set]; exact HLL.out⟩, ⟨fun i hi => ?_⟩, ⟨blk_put HXR.out j _ (strs_set _ _ _)⟩, ⟨HKR.out.setCell (Or.inl rfl) _⟩, ⟨HBR.out.setCell (HR.out sb (Or.inr (Or.inl rfl))) _⟩⟩
          have := HLL.out
          rw [List.getElem?_set]
          by_cases e : j = i
          · rw [if_pos e, if_pos (by omega)]
          · rw [if_neg e]; exact HLI.out i (by omega)
      · obtain rfl : j = n := by omega
        have hleq : l = List.replicate j zeros140 := by
          apply List.ext_getElem?
          intro i
          rw [List.getElem?_replicate]
          by_cases hi : i < j
          · rw [if_pos hi]; exact HLI.out i hi
          · rw [if_neg hi]; exact List.getElem?_eq_none (by have := HLL.out; omega)
        have hdev := newAt (W := W) (W4 := wr) (n := j) (L := ⟨g, sb, ob, bm⟩) h1 (HGR.out.trans (by unfold gcells newS; simp only [List.length_replicate])) (by rw [← hleq]; exact HXR.out) (blk_kept FO.out HKR.out (fun e => HSO.out e.symm)) ((HKR.out.2 bm (Array.getElem?_eq_some_iff.1 FM.out).1 (fun e => HSM.out e.symm)).trans FM.out) HR.out
        have HDEV := Aside0.mk hdev
        clear hleq hdev
        go_wp2_with fail
        go_ret2
        exact ⟨⟨g, sb, ob, bm⟩, _, rfl, HDEV.out, HBR.out⟩
  · obtain ⟨f0, f1, f2, f3, fs, fb⟩ := four W (.cells (strs (List.replicate n ⟨#[]⟩)) 9) (.map #[] 0) (.cells (nils n) 26) (.cells #[.slice (some ⟨W.heap.size, 0, none⟩) n n, .slice (some ⟨W.heap.size + 1 + 1, 0, none⟩) n n, .slice none 0 0, .map (some (W.heap.size + 1)), .bool false, .int .i64 0, .slice none 0 0, .bool false] 81)
    obtain ⟨W4, hW4⟩ : ∃ W4, W4 = ((((W.alloc (.cells (strs (List.replicate n ⟨#[]⟩)) 9)).alloc (.map #[] 0)).alloc (.cells (nils n) 26)).alloc (.cells #[.slice (some ⟨W.heap.size, 0, none⟩) n n, .slice (some ⟨W.heap.size + 1 + 1, 0, none⟩) n n, .slice none 0 0, .map (some (W.heap.size + 1)), .bool false, .int .i64 0, .slice none 0 0, .bool false] 81)).drew := ⟨_, rfl⟩
    rw [← hW4] at f0 f1 f2 f3 fs fb ⊢
    have HFB := Aside0.mk fb
    obtain ⟨sb, hsb⟩ : ∃ sb, sb = W.heap.size := ⟨_, rfl⟩
    obtain ⟨ob, hob⟩ : ∃ ob, ob = W.heap.size + 1 + 1 := ⟨_, rfl⟩
    obtain ⟨bm, hbm⟩ : ∃ bm, bm = W.heap.size + 1 := ⟨_, rfl⟩
    obtain ⟨g, hg⟩ : ∃ g, g = W.heap.size + 1 + 1 + 1 := ⟨_, rfl⟩
    rw [← hg] at f3 ⊢
    rw [← hob, ← hbm, ← hsb] at f3 ⊢
    rw [← hsb] at f0
    rw [← hob] at f2
    rw [← hbm] at f1
    have FS := Aside0.mk f0
    have FO := Aside0.mk f2
    have FM := Aside0.mk f1
    have FG := Aside0.mk f3
    have HR := Aside0.mk (show ∀ k, (k = g ∨ k = sb ∨ k = ob ∨ k = bm) → W.heap.size ≤ k from fun k hk => by rcases hk with e | e | e | e <;> omega)
    have lg : g < W4.heap.size := blk_lt f3
    have c0 : W4.cell? ⟨g, 0, none⟩ = some (.slice (some ⟨sb, 0, none⟩) n n) := by rw [blk_cell f3]; rfl
    have hsg : sb ≠ g := blk_ne FS.out FG.out (by decide)
    have hso : sb ≠ ob := blk_ne FS.out FO.out (by decide)
    have hsm : sb ≠ bm := fun e => by have h1 := FS.out; rw [e] at h1; have h2 := h1.symm.trans FM.out; cases h2
    have hgs : g ≠ sb := fun e => hsg e.symm
    have HSO := Aside0.mk hso
    have HSM := Aside0.mk hsm
    clear f0 f1 f2 f3 fs fb hsb hob hbm hg hW4 hm1 hm2 hso hsm hk
    go_wp2_with fail
    obtain ⟨W5, hW5⟩ : ∃ W5, W5 = W4.alloc (.cells (madeCells #[.int .u8 0] 140) 5) := ⟨_, rfl⟩
    have HB5 := Aside0.mk (show Below W4.heap.size W4 W5 by rw [hW5]; exact below_alloc (Below.refl _ _) _)
    have c05 : W5.cell? ⟨g, 0, none⟩ = some (.slice (some ⟨sb, 0, none⟩) n n) := (HB5.out.cell (p := ⟨g, 0, none⟩) lg).trans c0
    rw [← hW5]
    have HG5 := Aside0.mk (blk_below FG.out HB5.out)
    have HS5 := Aside0.mk (blk_below FS.out HB5.out)
    clear hW5 hm3 hcv c0
    go_loopg [6, 27] n (fun gg _ s27 wr => ∃ (j : Nat) (l : List ByteArray), s27 = .int .i64 j ∧ j ≤ n ∧ n - j ≤ gg ∧ Aside0 (l.length = n) ∧ Aside0 (∀ i, i < j → l[i]? = some zeros140) ∧ Aside0 (wr.heap[sb]? = some (.cells (strs l) 9 (0, 0))) ∧ Aside0 (Kept W4 wr (fun k => k = sb)) ∧ Aside0 (Below W.heap.size W wr))
    case atStart => exact ⟨0, List.replicate n ⟨#[]⟩, by go_num, Nat.zero_le _, by omega, ⟨by simp⟩, ⟨fun i hi => by omega⟩, HS5, ⟨Kept.of_below HB5.out _⟩, ⟨below_step HFB.out HB5.out⟩⟩
    case round =>
      obtain ⟨j, l, rfl, hj, hgg, HLL, HLI, HXR, HKR, HBR⟩ := hrel
      have hgr := blk_kept FG.out HKR.out hgs
      have cg : wr.cell? ⟨g, 0, none⟩ = some (.slice (some ⟨sb, 0, none⟩) n n) := by rw [blk_cell hgr]; rfl
      have HGR := Aside0.mk hgr
      clear hgr
      by_cases hlt : j < n
      · have hltz : (j : Int) < (n : Int) := by omega
        have cj : wr.cell? ⟨sb, j, none⟩ = some (.string (l[j]'(by have := HLL.out; omega))) := by rw [blk_cell HXR.out]; exact strs_at l j (by have := HLL.out; omega)
        have fj : wr.frozen? ⟨sb, j, none⟩ = false := blk_frozen HXR.out j
        go_wp2_with fail
        go_roundg (n - (j + 1))
        case measure => omega
        case rel =>
          refine ⟨j + 1, l.set j zeros140, by go_num, by omega, Nat.le_refl _, ⟨by rw [List.length_set]; exact HLL.out⟩, ⟨fun i hi => ?_⟩, ⟨blk_put HXR.out j _ (strs_set _ _ _)⟩, ⟨HKR.out.setCell (Or.inl rfl) _⟩, ⟨HBR.out.setCell (HR.out sb (Or.inr (Or.inl rfl))) _⟩⟩
          have := HLL.out
          rw [List.getElem?_set]
          by_cases e : j = i
          · rw [if_pos e, if_pos (by omega)]
          · rw [if_neg e]; exact HLI.out i (by omega)
      · obtain rfl : j = n := by omega
        have hleq : l = List.replicate j zeros140 := by
          apply List.ext_getElem?
          intro i
          rw [List.getElem?_replicate]
          by_cases hi : i < j
          · rw [if_pos hi]; exact HLI.out i hi
          · rw [if_neg hi]; exact List.getElem?_eq_none (by have := HLL.out; omega)
        have hdev := newAt (W := W) (W4 := wr) (n := j) (L := ⟨g, sb, ob, bm⟩) h1 (HGR.out.trans (by unfold gcells newS; simp only [List.length_replicate])) (by rw [← hleq]; exact HXR.out) (blk_kept FO.out HKR.out (fun e => HSO.out e.symm)) ((HKR.out.2 bm (Array.getElem?_eq_some_iff.1 FM.out).1 (fun e => HSM.out e.symm)).trans FM.out) HR.out
        have HDEV := Aside0.mk hdev
        clear hleq hdev
        go_wp2_with fail
        go_ret2
        exact ⟨⟨g, sb, ob, bm⟩, _, rfl, HDEV.out, HBR.out⟩
  · obtain ⟨f0, f1, f2, f3, fs, fb⟩ := four W (.cells (nils n) 26) (.cells (strs (List.replicate n ⟨#[]⟩)) 9) (.map #[] 0) (.cells #[.slice (some ⟨W.heap.size + 1, 0, none⟩) n n, .slice (some ⟨W.heap.size, 0, none⟩) n n, .slice none 0 0, .map (some (W.heap.size + 1 + 1)), .bool false, .int .i64 0, .slice none 0 0, .bool false] 81)
    obtain ⟨W4, hW4⟩ : ∃ W4, W4 = ((((W.alloc (.cells (nils n) 26)).alloc (.cells (strs (List.replicate n ⟨#[]⟩)) 9)).alloc (.map #[] 0)).alloc (.cells #[.slice (some ⟨W.heap.size + 1, 0, none⟩) n n, .slice (some ⟨W.heap.size, 0, none⟩) n n, .slice none 0 0, .map (some (W.heap.size + 1 + 1)), .bool false, .int .i64 0, .slice none 0 0, .bool false] 81)).drew := ⟨_, rfl⟩
    rw [← hW4] at f0 f1 f2 f3 fs fb ⊢
    have HFB := Aside0.mk fb
    obtain ⟨sb, hsb⟩ : ∃ sb, sb = W.heap.size + 1 := ⟨_, rfl⟩
    obtain ⟨ob, hob⟩ : ∃ ob, ob = W.heap.size := ⟨_, rfl⟩
    obtain ⟨bm, hbm⟩ : ∃ bm, bm = W.heap.size + 1 + 1 := ⟨_, rfl⟩
    obtain ⟨g, hg⟩ : ∃ g, g = W.heap.size + 1 + 1 + 1 := ⟨_, rfl⟩
    rw [← hg] at f3 ⊢
    rw [← hbm, ← hsb, ← hob] at f3 ⊢
    rw [← hsb] at f1
    rw [← hob] at f0
    rw [← hbm] at f2
    have FS := Aside0.mk f1
    have FO := Aside0.mk f0
    have FM := Aside0.mk f2
    have FG := Aside0.mk f3
    have HR := Aside0.mk (show ∀ k, (k = g ∨ k = sb ∨ k = ob ∨ k = bm) → W.heap.size ≤ k from fun k hk => by rcases hk with e | e | e | e <;> omega)
    have lg : g < W4.heap.size := blk_lt f3
    have c0 : W4.cell? ⟨g, 0, none⟩ = some (.slice (some ⟨sb, 0, none⟩) n n) := by rw [blk_cell f3]; rfl
    have hsg : sb ≠ g := blk_ne FS.out FG.out (by decide)
    have hso : sb ≠ ob := blk_ne FS.out FO.out (by decide)
    have hsm : sb ≠ bm := fun e => by have h1 := FS.out; rw [e] at h1; have h2 := h1.symm.trans FM.out; cases h2
    have hgs : g ≠ sb := fun e => hsg e.symm
    have HSO := Aside0.mk hso
    have HSM := Aside0.mk hsm
    clear f0 f1 f2 f3 fs fb hsb hob hbm hg hW4 hm1 hm2 hso hsm hk
    go_wp2_with fail
    obtain ⟨W5, hW5⟩ : ∃ W5, W5 = W4.alloc (.cells (madeCells #[.int .u8 0] 140) 5) := ⟨_, rfl⟩
    have HB5 := Aside0.mk (show Below W4.heap.size W4 W5 by rw [hW5]; exact below_alloc (Below.refl _ _) _)
    have c05 : W5.cell? ⟨g, 0, none⟩ = some (.slice (some ⟨sb, 0, none⟩) n n) := (HB5.out.cell (p := ⟨g, 0, none⟩) lg).trans c0
    rw [← hW5]
    have HG5 := Aside0.mk (blk_below FG.out HB5.out)
    have HS5 := Aside0.mk (blk_below FS.out HB5.out)
    clear hW5 hm3 hcv c0
    go_loopg [6, 27] n (fun gg _ s27 wr => ∃ (j : Nat) (l : List ByteArray), s27 = .int .i64 j ∧ j ≤ n ∧ n - j ≤ gg ∧ Aside0 (l.length = n) ∧ Aside0 (∀ i, i < j → l[i]? = some zeros140) ∧ Aside0 (wr.heap[sb]? = some (.cells (strs l) 9 (0, 0))) ∧ Aside0 (Kept W4 wr (fun k => k = sb)) ∧ Aside0 (Below W.heap.size W wr))
    case atStart => exact ⟨0, List.replicate n ⟨#[]⟩, by go_num, Nat.zero_le _, by omega, ⟨by simp⟩, ⟨fun i hi => by omega⟩, HS5, ⟨Kept.of_below HB5.out _⟩, ⟨below_step HFB.out HB5.out⟩⟩
    case round =>
      obtain ⟨j, l, rfl, hj, hgg, HLL, HLI, HXR, HKR, HBR⟩ := hrel
      have hgr := blk_kept FG.out HKR.out hgs
      have cg : wr.cell? ⟨g, 0, none⟩ = some (.slice (some ⟨sb, 0, none⟩) n n) := by rw [blk_cell hgr]; rfl
      have HGR := Aside0.mk hgr
      clear hgr
      by_cases hlt : j < n
      · have hltz : (j : Int) < (n : Int) := by omega
        have cj : wr.cell? ⟨sb, j, none⟩ = some (.string (l[j]'(by have := HLL.out; omega))) := by rw [blk_cell HXR.out]; exact strs_at l j (by have := HLL.out; omega)
        have fj : wr.frozen? ⟨sb, j, none⟩ = false := blk_frozen HXR.out j
        go_wp2_with fail
        go_roundg (n - (j + 1))
        case measure => omega
        case rel =>
          refine ⟨j + 1, l.set j zeros140, by go_num, by omega, Nat.le_refl _, ⟨by rw [List.length_set]; exact HLL.out⟩, ⟨fun i hi => ?_⟩, ⟨blk_put HXR.out j _ (strs_set _ _ _)⟩, ⟨HKR.out.setCell (Or.inl rfl) _⟩, ⟨HBR.out.setCell (HR.out sb (Or.inr (Or.inl rfl))) _⟩⟩
          have := HLL.out
          rw [List.getElem?_set]
          by_cases e : j = i
          · rw [if_pos e, if_pos (by omega)]
          · rw [if_neg e]; exact HLI.out i (by omega)
      · obtain rfl : j = n := by omega
        have hleq : l = List.replicate j zeros140 := by
          apply List.ext_getElem?
          intro i
          rw [List.getElem?_replicate]
          by_cases hi : i < j
          · rw [if_pos hi]; exact HLI.out i hi
          · rw [if_neg hi]; exact List.getElem?_eq_none (by have := HLL.out; omega)
        have hdev := newAt (W := W) (W4 := wr) (n := j) (L := ⟨g, sb, ob, bm⟩) h1 (HGR.out.trans (by unfold gcells newS; simp only [List.length_replicate])) (by rw [← hleq]; exact HXR.out) (blk_kept FO.out HKR.out (fun e => HSO.out e.symm)) ((HKR.out.2 bm (Array.getElem?_eq_some_iff.1 FM.out).1 (fun e => HSM.out e.symm)).trans FM.out) HR.out
        have HDEV := Aside0.mk hdev
        clear hleq hdev
        go_wp2_with fail
        go_ret2
        exact ⟨⟨g, sb, ob, bm⟩, _, rfl, HDEV.out, HBR.out⟩
  · obtain ⟨f0, f1, f2, f3, fs, fb⟩ := four W (.cells (nils n) 26) (.map #[] 0) (.cells (strs (List.replicate n ⟨#[]⟩)) 9) (.cells #[.slice (some ⟨W.heap.size + 1 + 1, 0, none⟩) n n, .slice (some ⟨W.heap.size, 0, none⟩) n n, .slice none 0 0, .map (some (W.heap.size + 1)), .bool false, .int .i64 0, .slice none 0 0, .bool false] 81)
    obtain ⟨W4, hW4⟩ : ∃ W4, W4 = ((((W.alloc (.cells (nils n) 26)).alloc (.map #[] 0)).alloc (.cells (strs (List.replicate n ⟨#[]⟩)) 9)).alloc (.cells #[.slice (some ⟨W.heap.size + 1 + 1, 0, none⟩) n n, .slice (some ⟨W.heap.size, 0, none⟩) n n, .slice none 0 0, .map (some (W.heap.size + 1)), .bool false, .int .i64 0, .slice none 0 0, .bool false] 81)).drew := ⟨_, rfl⟩
    rw [← hW4] at f0 f1 f2 f3 fs fb ⊢
    have HFB := Aside0.mk fb
    obtain ⟨sb, hsb⟩ : ∃ sb, sb = W.heap.size + 1 + 1 := ⟨_, rfl⟩
    obtain ⟨ob, hob⟩ : ∃ ob, ob = W.heap.size := ⟨_, rfl⟩
    obtain ⟨bm, hbm⟩ : ∃ bm, bm = W.heap.size + 1 := ⟨_, rfl⟩
    obtain ⟨g, hg⟩ : ∃ g, g = W.heap.size + 1 + 1 + 1 := ⟨_, rfl⟩
    rw [← hg] at f3 ⊢
    rw [← hsb, ← hbm, ← hob] at f3 ⊢
    rw [← hsb] at f2
    rw [← hob] at f0
    rw [← hbm] at f1
    have FS := Aside0.mk f2
    have FO := Aside0.mk f0
    have FM := Aside0.mk f1
    have FG := Aside0.mk f3
    have HR := Aside0.mk (show ∀ k, (k = g ∨ k = sb ∨ k = ob ∨ k = bm) → W.heap.size ≤ k from fun k hk => by rcases hk with e | e | e | e <;> omega)
    have lg : g < W4.heap.size := blk_lt f3
    have c0 : W4.cell? ⟨g, 0, none⟩ = some (.slice (some ⟨sb, 0, none⟩) n n) := by rw [blk_cell f3]; rfl
    have hsg : sb ≠ g := blk_ne FS.out FG.out (by decide)
    have hso : sb ≠ ob := blk_ne FS.out FO.out (by decide)
    have hsm : sb ≠ bm := fun e => by have h1 := FS.out; rw [e] at h1; have h2 := h1.symm.trans FM.out; cases h2
    have hgs : g ≠ sb := fun e => hsg e.symm
    have HSO := Aside0.mk hso
    have HSM := Aside0.mk hsm
    clear f0 f1 f2 f3 fs fb hsb hob hbm hg hW4 hm1 hm2 hso hsm hk
    go_wp2_with fail
    obtain ⟨W5, hW5⟩ : ∃ W5, W5 = W4.alloc (.cells (madeCells #[.int .u8 0] 140) 5) := ⟨_, rfl⟩
    have HB5 := Aside0.mk (show Below W4.heap.size W4 W5 by rw [hW5]; exact below_alloc (Below.refl _ _) _)
    have c05 : W5.cell? ⟨g, 0, none⟩ = some (.slice (some ⟨sb, 0, none⟩) n n) := (HB5.out.cell (p := ⟨g, 0, none⟩) lg).trans c0
    rw [← hW5]
    have HG5 := Aside0.mk (blk_below FG.out HB5.out)
    have HS5 := Aside0.mk (blk_below FS.out HB5.out)
    clear hW5 hm3 hcv c0
    go_loopg [6, 27] n (fun gg _ s27 wr => ∃ (j : Nat) (l : List ByteArray), s27 = .int .i64 j ∧ j ≤ n ∧ n - j ≤ gg ∧ Aside0 (l.length = n) ∧ Aside0 (∀ i, i < j → l[i]? = some zeros140) ∧ Aside0 (wr.heap[sb]? = some (.cells (strs l) 9 (0, 0))) ∧ Aside0 (Kept W4 wr (fun k => k = sb)) ∧ Aside0 (Below W.heap.size W wr))
    case atStart => exact ⟨0, List.replicate n ⟨#[]⟩, by go_num, Nat.zero_le _, by omega, ⟨by simp⟩, ⟨fun i hi => by omega⟩, HS5, ⟨Kept.of_below HB5.out _⟩, ⟨below_step HFB.out HB5.out⟩⟩
    case round =>
      obtain ⟨j, l, rfl, hj, hgg, HLL, HLI, HXR, HKR, HBR⟩ := hrel
      have hgr := blk_kept FG.out HKR.out hgs
      have cg : wr.cell? ⟨g, 0, none⟩ = some (.slice (some ⟨sb, 0, none⟩) n n) := by rw [blk_cell hgr]; rfl
      have HGR := Aside0.mk hgr
      clear hgr
      by_cases hlt : j < n
      · have hltz : (j : Int) < (n : Int) := by omega
        have cj : wr.cell? ⟨sb, j, none⟩ = some (.string (l[j]'(by have := HLL.out; omega))) := by rw [blk_cell HXR.out]; exact strs_at l j (by have := HLL.out; omega)
        have fj : wr.frozen? ⟨sb, j, none⟩ = false := blk_frozen HXR.out j
        go_wp2_with fail
        go_roundg (n - (j + 1))
        case measure => omega
        case rel =>
          refine ⟨j + 1, l.set j zeros140, by go_num, by omega, Nat.le_refl _, ⟨by rw [List.length_set]; exact HLL.out⟩, ⟨fun i hi => ?_⟩, ⟨blk_put HXR.out j _ (strs_set _ _ _)⟩, ⟨HKR.out.setCell (Or.inl rfl) _⟩, ⟨HBR.out.setCell (HR.out sb (Or.inr (Or.inl rfl))) _⟩⟩
          have := HLL.out
          rw [List.getElem?_set]
          by_cases e : j = i
          · rw [if_pos e, if_pos (by omega)]
          · rw [if_neg e]; exact HLI.out i (by omega)
      · obtain rfl : j = n := by omega
        have hleq : l = List.replicate j zeros140 := by
          apply List.ext_getElem?
          intro i
          rw [List.getElem?_replicate]
          by_cases hi : i < j
          · rw [if_pos hi]; exact HLI.out i hi
          · rw [if_neg hi]; exact List.getElem?_eq_none (by have := HLL.out; omega)
        have hdev := newAt (W := W) (W4 := wr) (n := j) (L := ⟨g, sb, ob, bm⟩) h1 (HGR.out.trans (by unfold gcells newS; simp only [List.length_replicate])) (by rw [← hleq]; exact HXR.out) (blk_kept FO.out HKR.out (fun e => HSO.out e.symm)) ((HKR.out.2 bm (Array.getElem?_eq_some_iff.1 FM.out).1 (fun e => HSM.out e.symm)).trans FM.out) HR.out
        have HDEV := Aside0.mk hdev
        clear hleq hdev
        go_wp2_with fail
        go_ret2
        exact ⟨⟨g, sb, ob, bm⟩, _, rfl, HDEV.out, HBR.out⟩
  · obtain ⟨f0, f1, f2, f3, fs, fb⟩ := four W (.map #[] 0) (.cells (strs (List.replicate n ⟨#[]⟩)) 9) (.cells (nils n) 26) (.cells #[.slice (some ⟨W.heap.size + 1, 0, none⟩) n n, .slice (some ⟨W.heap.size + 1 + 1, 0, none⟩) n n, .slice none 0 0, .map (some (W.heap.size)), .bool false, .int .i64 0, .slice none 0 0, .bool false] 81)
    obtain ⟨W4, hW4⟩ : ∃ W4, W4 = ((((W.alloc (.map #[] 0)).alloc (.cells (strs (List.replicate n ⟨#[]⟩)) 9)).alloc (.cells (nils n) 26)).alloc (.cells #[.slice (some ⟨W.heap.size + 1, 0, none⟩) n n, .slice (some ⟨W.heap.size + 1 + 1, 0, none⟩) n n, .slice none 0 0, .map (some (W.heap.size)), .bool false, .int .i64 0, .slice none 0 0, .bool false] 81)).drew := ⟨_, rfl⟩
    rw [← hW4] at f0 f1 f2 f3 fs fb ⊢
    have HFB := Aside0.mk fb
    obtain ⟨sb, hsb⟩ : ∃ sb, sb = W.heap.size + 1 := ⟨_, rfl⟩
    obtain ⟨ob, hob⟩ : ∃ ob, ob = W.heap.size + 1 + 1 := ⟨_, rfl⟩
    obtain ⟨bm, hbm⟩ : ∃ bm, bm = W.heap.size := ⟨_, rfl⟩
    obtain ⟨g, hg⟩ : ∃ g, g = W.heap.size + 1 + 1 + 1 := ⟨_, rfl⟩
    rw [← hg] at f3 ⊢
    rw [← hob, ← hsb, ← hbm] at f3 ⊢
    rw [← hsb] at f1
    rw [← hob] at f2
    rw [← hbm] at f0
    have FS := Aside0.mk f1
    have FO := Aside0.mk f2
    have FM := Aside0.mk f0
    have FG := Aside0.mk f3
    have HR := Aside0.mk (show ∀ k, (k = g ∨ k = sb ∨ k = ob ∨ k = bm) → W.heap.size ≤ k from fun k hk => by rcases hk with e | e | e | e <;> omega)
    have lg : g < W4.heap.size := blk_lt f3
    have c0 : W4.cell? ⟨g, 0, none⟩ = some (.slice (some ⟨sb, 0, none⟩) n n) := by rw [blk_cell f3]; rfl
    have hsg : sb ≠ g := blk_ne FS.out FG.out (by decide)
    have hso : sb ≠ ob := blk_ne FS.out FO.out (by decide)
    have hsm : sb ≠ bm := fun e => by have h1 := FS.out; rw [e] at h1; have h2 := h1.symm.trans FM.out; cases h2
    have hgs : g ≠ sb := fun e => hsg e.symm
    have HSO := Aside0.mk hso
    have HSM := Aside0.mk hsm
    clear f0 f1 f2 f3 fs fb hsb hob hbm hg hW4 hm1 hm2 hso hsm hk
    go_wp2_with fail
    obtain ⟨W5, hW5⟩ : ∃ W5, W5 = W4.alloc (.cells (madeCells #[.int .u8 0] 140) 5) := ⟨_, rfl⟩
    have HB5 := Aside0.mk (show Below W4.heap.size W4 W5 by rw [hW5]; exact below_alloc (Below.refl _ _) _)
    have c05 : W5.cell? ⟨g, 0, none⟩ = some (.slice (some ⟨sb, 0, none⟩) n n) := (HB5.out.cell (p := ⟨g, 0, none⟩) lg).trans c0
    rw [← hW5]
    have HG5 := Aside0.mk (blk_below FG.out HB5.out)
    have HS5 := Aside0.mk (blk_below FS.out HB5.out)
    clear hW5 hm3 hcv c0
    go_loopg [6, 27] n (fun gg _ s27 wr => ∃ (j : Nat) (l : List ByteArray), s27 = .int .i64 j ∧ j ≤ n ∧ n - j ≤ gg ∧ Aside0 (l.length = n) ∧ Aside0 (∀ i, i < j → l[i]? = some zeros140) ∧ Aside0 (wr.heap[sb]? = some (.cells (strs l) 9 (0, 0))) ∧ Aside0 (Kept W4 wr (fun k => k = sb)) ∧ Aside0 (Below W.heap.size W wr))
    case atStart => exact ⟨0, List.replicate n ⟨#[]⟩, by go_num, Nat.zero_le _, by omega, ⟨by simp⟩, ⟨fun i hi => by omega⟩, HS5, ⟨Kept.of_below HB5.out _⟩, ⟨below_step HFB.out HB5.out⟩⟩
    case round =>
      obtain ⟨j, l, rfl, hj, hgg, HLL, HLI, HXR, HKR, HBR⟩ := hrel
      have hgr := blk_kept FG.out HKR.out hgs
      have cg : wr.cell? ⟨g, 0, none⟩ = some (.slice (some ⟨sb, 0, none⟩) n n) := by rw [blk_cell hgr]; rfl
      have HGR := Aside0.mk hgr
      clear hgr
      by_cases hlt : j < n
      · have hltz : (j : Int) < (n : Int) := by omega
        have cj : wr.cell? ⟨sb, j, none⟩ = some (.string (l[j]'(by have := HLL.out; omega))) := by rw [blk_cell HXR.out]; exact strs_at l j (by have := HLL.out; omega)
        have fj : wr.frozen? ⟨sb, j, none⟩ = false := blk_frozen HXR.out j
        go_wp2_with fail
        go_roundg (n - (j + 1))
        case measure => omega
        case rel =>
          refine ⟨j + 1, l.set j zeros140, by go_num, by omega, Nat.le_refl _, ⟨by rw [List.length_set]; exact HLL.out⟩, ⟨fun i hi => ?_⟩, ⟨blk_put HXR.out j _ (strs_set _ _ _)⟩, ⟨HKR.out.setCell (Or.inl rfl) _⟩, ⟨HBR.out.setCell (HR.out sb (Or.inr (Or.inl rfl))) _⟩⟩
          have := HLL.out
          rw [List.getElem?_set]
          by_cases e : j = i
          · rw [if_pos e, if_pos (by omega)]
          · rw [if_neg e]; exact HLI.out i (by omega)
      · obtain rfl : j = n := by omega
        have hleq : l = List.replicate j zeros140 := by
          apply List.ext_getElem?
          intro i
          rw [List.getElem?_replicate]
          by_cases hi : i < j
          · rw [if_pos hi]; exact HLI.out i hi
          · rw [if_neg hi]; exact List.getElem?_eq_none (by have := HLL.out; omega)
        have hdev := newAt (W := W) (W4 := wr) (n := j) (L := ⟨g, sb, ob, bm⟩) h1 (HGR.out.trans (by unfold gcells newS; simp only [List.length_replicate])) (by rw [← hleq]; exact HXR.out) (blk_kept FO.out HKR.out (fun e => HSO.out e.symm)) ((HKR.out.2 bm (Array.getElem?_eq_some_iff.1 FM.out).1 (fun e => HSM.out e.symm)).trans FM.out) HR.out
        have HDEV := Aside0.mk hdev
        clear hleq hdev
        go_wp2_with fail
        go_ret2
        exact ⟨⟨g, sb, ob, bm⟩, _, rfl, HDEV.out, HBR.out⟩
  · obtain ⟨f0, f1, f2, f3, fs, fb⟩ := four W (.map #[] 0) (.cells (nils n) 26) (.cells (strs (List.replicate n ⟨#[]⟩)) 9) (.cells #[.slice (some ⟨W.heap.size + 1 + 1, 0, none⟩) n n, .slice (some ⟨W.heap.size + 1, 0, none⟩) n n, .slice none 0 0, .map (some (W.heap.size)), .bool false, .int .i64 0, .slice none 0 0, .bool false] 81)
    obtain ⟨W4, hW4⟩ : ∃ W4, W4 = ((((W.alloc (.map #[] 0)).alloc (.cells (nils n) 26)).alloc (.cells (strs (List.replicate n ⟨#[]⟩)) 9)).alloc (.cells #[.slice (some ⟨W.heap.size + 1 + 1, 0, none⟩) n n, .slice (some ⟨W.heap.size + 1, 0, none⟩) n n, .slice none 0 0, .map (some (W.heap.size)), .bool false, .int .i64 0, .slice none 0 0, .bool false] 81)).drew := ⟨_, rfl⟩
    rw [← hW4] at f0 f1 f2 f3 fs fb ⊢
    have HFB := Aside0.mk fb
    obtain ⟨sb, hsb⟩ : ∃ sb, sb = W.heap.size + 1 + 1 := ⟨_, rfl⟩
    obtain ⟨ob, hob⟩ : ∃ ob, ob = W.heap.size + 1 := ⟨_, rfl⟩
    obtain ⟨bm, hbm⟩ : ∃ bm, bm = W.heap.size := ⟨_, rfl⟩
    obtain ⟨g, hg⟩ : ∃ g, g = W.heap.size + 1 + 1 + 1 := ⟨_, rfl⟩
    rw [← hg] at f3 ⊢
    rw [← hsb, ← hob, ← hbm] at f3 ⊢
    rw [← hsb] at f2
    rw [← hob] at f1
    rw [← hbm] at f0
    have FS := Aside0.mk f2
    have FO := Aside0.mk f1
    have FM := Aside0.mk f0
    have FG := Aside0.mk f3
    have HR := Aside0.mk (show ∀ k, (k = g ∨ k = sb ∨ k = ob ∨ k = bm) → W.heap.size ≤ k from fun k hk => by rcases hk with e | e | e | e <;> omega)
    have lg : g < W4.heap.size := blk_lt f3
    have c0 : W4.cell? ⟨g, 0, none⟩ = some (.slice (some ⟨sb, 0, none⟩) n n) := by rw [blk_cell f3]; rfl
    have hsg : sb ≠ g := blk_ne FS.out FG.out (by decide)
    have hso : sb ≠ ob := blk_ne FS.out FO.out (by decide)
    have hsm : sb ≠ bm := fun e => by have h1 := FS.out; rw [e] at h1; have h2 := h1.symm.trans FM.out; cases h2
    have hgs : g ≠ sb := fun e => hsg e.symm
    have HSO := Aside0.mk hso
    have HSM := Aside0.mk hsm
    clear f0 f1 f2 f3 fs fb hsb hob hbm hg hW4 hm1 hm2 hso hsm hk
    go_wp2_with fail
    obtain ⟨W5, hW5⟩ : ∃ W5, W5 = W4.alloc (.cells (madeCells #[.int .u8 0] 140) 5) := ⟨_, rfl⟩
    have HB5 := Aside0.mk (show Below W4.heap.size W4 W5 by rw [hW5]; exact below_alloc (Below.refl _ _) _)
    have c05 : W5.cell? ⟨g, 0, none⟩ = some (.slice (some ⟨sb, 0, none⟩) n n) := (HB5.out.cell (p := ⟨g, 0, none⟩) lg).trans c0
    rw [← hW5]
    have HG5 := Aside0.mk (blk_below FG.out HB5.out)
    have HS5 := Aside0.mk (blk_below FS.out HB5.out)
    clear hW5 hm3 hcv c0
    go_loopg [6, 27] n (fun gg _ s27 wr => ∃ (j : Nat) (l : List ByteArray), s27 = .int .i64 j ∧ j ≤ n ∧ n - j ≤ gg ∧ Aside0 (l.length = n) ∧ Aside0 (∀ i, i < j → l[i]? = some zeros140) ∧ Aside0 (wr.heap[sb]? = some (.cells (strs l) 9 (0, 0))) ∧ Aside0 (Kept W4 wr (fun k => k = sb)) ∧ Aside0 (Below W.heap.size W wr))
    case atStart => exact ⟨0, List.replicate n ⟨#[]⟩, by go_num, Nat.zero_le _, by omega, ⟨by simp⟩, ⟨fun i hi => by omega⟩, HS5, ⟨Kept.of_below HB5.out _⟩, ⟨below_step HFB.out HB5.out⟩⟩
    case round =>
      obtain ⟨j, l, rfl, hj, hgg, HLL, HLI, HXR, HKR, HBR⟩ := hrel
      have hgr := blk_kept FG.out HKR.out hgs
      have cg : wr.cell? ⟨g, 0, none⟩ = some (.slice (some ⟨sb, 0, none⟩) n n) := by rw [blk_cell hgr]; rfl
      have HGR := Aside0.mk hgr
      clear hgr
      by_cases hlt : j < n
      · have hltz : (j : Int) < (n : Int) := by omega
        have cj : wr.cell? ⟨sb, j, none⟩ = some (.string (l[j]'(by have := HLL.out; omega))) := by rw [blk_cell HXR.out]; exact strs_at l j (by have := HLL.out; omega)
        have fj : wr.frozen? ⟨sb, j, none⟩ = false := blk_frozen HXR.out j
        go_wp2_with fail
        go_roundg (n - (j + 1))
        case measure => omega
        case rel =>
          refine ⟨j + 1, l.set j zeros140, by go_num, by omega, Nat.le_refl _, ⟨by rw [List.length_set]; exact HLL.out⟩, ⟨fun i hi => ?_⟩, ⟨blk_put HXR.out j _ (strs_set _ _ _)⟩, ⟨HKR.out.setCell (Or.inl rfl) _⟩, ⟨HBR.out.setCell (HR.out sb (Or.inr (Or.inl rfl))) _⟩⟩
          have := HLL.out
          rw [List.getElem?_set]
          by_cases e : j = i
          · rw [if_pos e, if_pos (by omega)]
          · rw [if_neg e]; exact HLI.out i (by omega)
      · obtain rfl : j = n := by omega
        have hleq : l = List.replicate j zeros140 := by
          apply List.ext_getElem?
          intro i
          rw [List.getElem?_replicate]
          by_cases hi : i < j
          · rw [if_pos hi]; exact HLI.out i hi
          · rw [if_neg hi]; exact List.getElem?_eq_none (by have := HLL.out; omega)
        have hdev := newAt (W := W) (W4 := wr) (n := j) (L := ⟨g, sb, ob, bm⟩) h1 (HGR.out.trans (by unfold gcells newS; simp only [List.length_replicate])) (by rw [← hleq]; exact HXR.out) (blk_kept FO.out HKR.out (fun e => HSO.out e.symm)) ((HKR.out.2 bm (Array.getElem?_eq_some_iff.1 FM.out).1 (fun e => HSM.out e.symm)).trans FM.out) HR.out
        have HDEV := Aside0.mk hdev
        clear hleq hdev
        go_wp2_with fail
        go_ret2
        exact ⟨⟨g, sb, ob, bm⟩, _, rfl, HDEV.out, HBR.out⟩
theorem fine_new (n : Nat) (h1 : 1 ≤ n) (h2 : n ≤ 1155) : Fine 0 (newS n) :=
  { len := by simp [newS]
    n0 := by simpa [newS] using h1
    n1 := by simpa [newS] using h2
    size := fun s hs => by
      have hs : s ∈ List.replicate n zeros140 := hs
      rw [(List.mem_replicate.1 hs).2]; rfl
    olen := fun l hl => by
      have hl : l ∈ List.replicate n ([] : List ByteArray) := hl
      rw [(List.mem_replicate.1 hl).2]; exact Nat.zero_le _
    osize := fun l hl s hs => by
      have hl : l ∈ List.replicate n ([] : List ByteArray) := hl
      rw [(List.mem_replicate.1 hl).2] at hs; cases hs
    pend := fun w hw => by cases hw
    plen := Nat.le_refl _
    l0 := ⟨Int.le_refl _, by show (0 : Int) ≤ _; decide⟩ }
set_option maxRecDepth 100000 in
theorem new_no (W : World) (n : Int) (h : n < 1 ∨ 1155 < n) :
    Calls Try.prog 17 #[.int .i64 n] W fun e W' => e = .returned (.tuple #[.pointer none, .int .i64 1]) ∧ W' = W := by
  by_cases h1 : n < 1
  · have hd : decide (n < 1) = true := decide_eq_true h1
    clear h h1
    go_enter Try.func17, Try.ntmps17
    go_wp2_with fail
    go_ret2
    exact ⟨rfl, rfl⟩
  · have h2 : 1155 < n := h.resolve_left h1
    have hd : decide (n < 1) = false := decide_eq_false h1
    have hd2 : decide (1155 < n) = true := decide_eq_true h2
    clear h h1 h2
    go_enter Try.func17, Try.ntmps17
    go_wp2_with fail
    go_ret2
    exact ⟨rfl, rfl⟩
end Go.Proofs.Ytflajmgichdhhaa.PG
