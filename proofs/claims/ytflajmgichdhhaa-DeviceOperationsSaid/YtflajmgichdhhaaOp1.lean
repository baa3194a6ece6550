/- The walks and plain facts behind the row of DeviceOperations: part 2 of 4. -/
import Derived.Test.YtflajmgichdhhaaOp0
namespace Go.Proofs.Ytflajmgichdhhaa.PG
open Go.RowKit Go.Proofs.YtflajmgichdhhaaW.PrintWords Go.Proofs.YtflajmgichdhhaaW.PrintLast Go.Proofs.YtflajmgichdhhaaW.PrintMore
set_option linter.unusedVariables false
set_option linter.unusedSimpArgs false
def zeros140 : ByteArray := ⟨(List.replicate 140 0).toArray⟩
def newS (n : Nat) : DevS := ⟨List.replicate n zeros140, List.replicate n [], [], fun _ => none, false, 0, [], false⟩
theorem makeMap77 (w : World) : (Instr.makeMap 77 none).run Try.prog w = .ok (.map (some w.heap.size)) (w.alloc (.map #[] 0)) := by
 simp [Instr.makeMap]
theorem four (W : World) (a b c d : Obj) : ((((W.alloc a).alloc b).alloc c).alloc d).drew.heap[W.heap.size]? = some a ∧ ((((W.alloc a).alloc b).alloc c).alloc d).drew.heap[W.heap.size + 1]? = some b ∧
  ((((W.alloc a).alloc b).alloc c).alloc d).drew.heap[W.heap.size + 1 + 1]? = some c ∧ ((((W.alloc a).alloc b).alloc c).alloc d).drew.heap[W.heap.size + 1 + 1 + 1]? = some d ∧ ((((W.alloc a).alloc b).alloc c).alloc d).drew.heap.size = W.heap.size + 4 ∧
  Below W.heap.size W ((((W.alloc a).alloc b).alloc c).alloc d).drew := by
 have e1 : (W.alloc a).heap.size = W.heap.size + 1 := by simp
 have e2 : ((W.alloc a).alloc b).heap.size = W.heap.size + 1 + 1 := by simp
 have e3 : (((W.alloc a).alloc b).alloc c).heap.size = W.heap.size + 1 + 1 + 1 := by simp
 have n1 := blk_new (W.alloc a) b
 have n2 := blk_new ((W.alloc a).alloc b) c
 have n3 := blk_new (((W.alloc a).alloc b).alloc c) d
 rw [e1] at n1
 rw [e2] at n2
 rw [e3] at n3
 exact ⟨blk_alloc (blk_alloc (blk_alloc (blk_new _ _) _) _) _, blk_alloc (blk_alloc n1 _) _, blk_alloc n2 _, n3, by simp [World.drew], (below_alloc (below_alloc (below_alloc (below_alloc (Below.refl _ _) _) _) _) _).drew⟩
theorem made_strs (n : Nat) : madeCells #[.string ⟨#[]⟩] n = strs (List.replicate n ⟨#[]⟩) := by
 rw [made_one, strs, List.map_replicate]
def nils (n : Nat) : Array Value := (List.replicate n (Value.slice none 0 0)).toArray
theorem made_nils (n : Nat) : madeCells #[.slice none 0 0] n = nils n := made_one _ _
theorem zero_str : strOfNums (List.replicate 140 0) = zeros140 := by
 unfold strOfNums zeros140
 rw [List.map_replicate]
 rfl
theorem made_reads (W : World) : Kd.C (Kd.int .u8) (W.alloc (.cells (madeCells #[.int .u8 0] 140) 5)) (some ⟨W.heap.size, 0, none⟩) 140 (List.replicate 140 0) := by
 refine ⟨by simp, by decide, fun _ => ⟨_, rfl, fun j p hj => ⟨[.int .u8 0], rfl, ?_, fun i u hi => ?_⟩⟩⟩
 ·have := List.getElem?_replicate (a := (0 : Int)) (n := 140) (i := j)
  rw [hj] at this
  split at this
  ·cases this; rfl
  ·cases this
 ·match i with
  | 0 =>
   cases hi
   have e : (⟨W.heap.size, 0, none⟩ : Addr).add (j * (Kd.int .u8).sz + 0) = ⟨W.heap.size, j, none⟩ := by
    show (⟨W.heap.size, 0, none⟩ : Addr).add (j * 1 + 0) = _
    rw [Nat.mul_one, Nat.add_zero, add_plain]
   obtain ⟨hjl, _⟩ := List.getElem?_eq_some_iff.1 hj
   rw [e, blk_cell (blk_new _ _), made_one, List.getElem?_toArray, List.getElem?_replicate, if_pos (by simpa using hjl)]
  | i + 1 => cases hi
theorem newAt {W W4 : World} {n : Nat} {L : Lay} (h1 : 1 ≤ n) (hg : W4.heap[L.g]? = some (.cells (gcells L (.slice none 0 0) (.slice none 0 0) (newS n)) 81 (0, 0))) (hs : W4.heap[L.sb]? = some (.cells (strs (List.replicate n zeros140)) 9 (0, 0)))
    (ho : W4.heap[L.ob]? = some (.cells (nils n) 26 (0, 0))) (hm : W4.heap[L.bm]? = some (.map #[] 0)) (hr : ∀ k, (k = L.g ∨ k = L.sb ∨ k = L.ob ∨ k = L.bm) → W.heap.size ≤ k) :
    DevIs W4 W.heap.size L (fun k => k = L.g ∨ k = L.sb ∨ k = L.ob ∨ k = L.bm) (newS n) :=
  ⟨List.replicate n (.slice none 0 0), .slice none 0 0, .slice none 0 0, [],
    { hg := hg
      hs := hs
      ho := ho
      hvl := by simp [newS]
      hv := fun i v x h1 h2 => by
        have e1 : v = .slice none 0 0 := by
          rw [List.getElem?_replicate] at h1
          split at h1
          · cases h1; rfl
          · cases h1
        have e2 : x = [] := by
          have h2 : (List.replicate n ([] : List ByteArray))[i]? = some x := h2
          rw [List.getElem?_replicate] at h2
          split at h2
          · cases h2; rfl
          · cases h2
        rw [e1, e2]
        exact Kd.V_nil _ _ _ _ _
      hp := Kd.R_nil _ _ _ _ _
      hm := ⟨#[], 0, hm, rfl, List.nodup_nil, MapKept.stamped_empty 0⟩
      hl := fun a => rfl
      hu := Kd.V_nil _ _ _ _ _
      hF := ⟨Or.inl rfl, Or.inr (Or.inl rfl), Or.inr (Or.inr (Or.inl rfl)), Or.inr (Or.inr (Or.inr rfl))⟩
      hr := fun k hk => ⟨hr k hk, by
        rcases hk with e | e | e | e
        · rw [e]; exact blk_lt hg
        · rw [e]; exact blk_lt hs
        · rw [e]; exact blk_lt ho
        · rw [e]; exact (Array.getElem?_eq_some_iff.1 hm).1⟩ }⟩
def NewPost (n : Nat) (W : World) (e : Ending) (W' : World) : Prop := ∃ L F, e = .returned (.tuple #[.pointer (some ⟨L.g, 0, none⟩), .int .i64 0]) ∧ DevIs W' W.heap.size L F (newS n) ∧ Below W.heap.size W W'
set_option maxHeartbeats 2000000 in
set_option maxRecDepth 100000 in
theorem new_calls (W : World) (n : Nat) (h1 : 1 ≤ n) (h2 : n ≤ 1155) :
  Calls Try.prog 17 #[.int .i64 n] W fun e W' => NewPost n W e W' := by
 have hd1 : decide ((n : Int) < 1) = false := decide_eq_false (by omega)
 have hd2 : decide (1155 < (n : Int)) = false := decide_eq_false (by omega)
 have hm1 := print_make_int (P := Try.prog) 26 9 (.string ⟨#[]⟩) 16 Try.underlying26 info9 rfl (by decide) (n : Int) (by omega) (by rw [Int.toNat_natCast]; omega)
 have hm2 := print_make_int (P := Try.prog) 27 26 (.slice none 0 0) 24 Try.underlying27 info26 rfl (by decide) (n : Int) (by omega) (by rw [Int.toNat_natCast]; omega)
 rw [Int.toNat_natCast] at hm1 hm2
 have hk := makeMap77
 have hm3 := print_make_int (P := Try.prog) 87 5 (.int .u8 0) 1 Try.underlying87 (by kernel_rfl) rfl (by decide) (140 : Int) (by omega) (by decide)
 have hcv : ∀ W1 : World, (convert 87 9 (.slice (some ⟨W1.heap.size, 0, none⟩) 140 140)).run Try.prog (W1.alloc (.cells (madeCells #[.int .u8 0] 140) 5)) = .ok (.string zeros140) (W1.alloc (.cells (madeCells #[.int .u8 0] 140) 5)) := fun W1 => by
  have h := Kd.C_string (P := Try.prog) (src := 87) (dst := 9) (c := 140) Try.underlying87 Try.underlying5 Try.underlying9 (made_reads W1)
  rw [zero_str] at h
  exact h
 rw [made_strs] at hm1
 rw [made_nils] at hm2
 have hn1 : (1 : Int) ≤ (n : Int) := by omega
 go_enter Try.func17, Try.ntmps17
 go_wp2_with fail
 go_region
 ·obtain ⟨f0, f1, f2, f3, fs, fb⟩ := four W (.cells (strs (List.replicate n ⟨#[]⟩)) 9) (.cells (nils n) 26) (.map #[] 0) (.cells #[.slice (some ⟨W.heap.size, 0, none⟩) n n, .slice (some ⟨W.heap.size + 1, 0, none⟩) n n, .slice none 0 0, .map (some (W.heap.size + 1 + 1)), .bool false, .int .i64 0, .slice none 0 0, .bool false] 81)
  obtain ⟨W4, hW4⟩ : ∃ W4, W4 = ((((W.alloc (.cells (strs (List.replicate n ⟨#[]⟩)) 9)).alloc (.cells (nils n) 26)).alloc (.map #[] 0)).alloc (.cells #[.slice (some ⟨W.heap.size, 0, none⟩) n n, .slice (some ⟨W.heap.size + 1, 0, none⟩) n n, .slice none 0 0, .map (some (W.heap.size + 1 + 1)), .bool false, .int .i64 0, .slice none 0 0, .bool false] 81)).drew := ⟨_, rfl⟩
  rw [← hW4] at f0 f1 f2 f3 fs fb ⊢
  have HFB := Aside0.mk fb
  obtain ⟨sb, hsb⟩ : ∃ sb, sb = W.heap.size := ⟨_, rfl⟩
  obtain ⟨ob, hob⟩ : ∃ ob, ob = W.heap.size + 1 := ⟨_, rfl⟩
  obtain ⟨bm, hbm⟩ : ∃ bm, bm = W.heap.size + 1 + 1 := ⟨_, rfl⟩
  obtain ⟨g, hg⟩ : ∃ g, g = W.heap.size + 1 + 1 + 1 := ⟨_, rfl⟩
  rw [← hg] at f3 ⊢
  rw [← hbm, ← hob, ← hsb] at f3 ⊢
  rw [← hsb] at f0
  rw [← hob] at f1
  rw [← hbm] at f2
  have FS := Aside0.mk f0
  have FO := Aside0.mk f1
  have FM := Aside0.mk f2
  have FG := Aside0.mk f3
  have HR := Aside0.mk (show ∀ k, (k = g ∨ k = sb ∨ k = ob ∨ k = bm) → W.heap.size ≤ k from fun k hk => by rcases hk with e | e | e | e <;> omega)
  have lg : g < W4.heap.size := blk_lt f3
  have c0 : W4.cell? ⟨g, 0, none⟩ = some (.slice (some ⟨sb, 0, none⟩) n n) := by rw [blk_cell f3]; rfl
  have hsg : sb ≠ g := blk_ne FS.out FG.out (by decide)
  have hso : sb ≠ ob := blk_ne FS.out FO.out (by decide)
  have hsm : sb ≠ bm := fun e => by have h1 := FS.out; rw [e] at h1; have h2 := h1.symm.trans FM.out; cases h2
  have hgs : g ≠ sb := fun e => hsg e.symm
  have HSO := Aside0.mk hso
  have HSM := Aside0.mk hsm
  clear f0 f1 f2 f3 fs fb hsb hob hbm hg hW4 hm1 hm2 hso hsm hk
  go_wp2_with fail
  obtain ⟨W5, hW5⟩ : ∃ W5, W5 = W4.alloc (.cells (madeCells #[.int .u8 0] 140) 5) := ⟨_, rfl⟩
  have HB5 := Aside0.mk (show Below W4.heap.size W4 W5 by rw [hW5]; exact below_alloc (Below.refl _ _) _)
  have c05 : W5.cell? ⟨g, 0, none⟩ = some (.slice (some ⟨sb, 0, none⟩) n n) := (HB5.out.cell (p := ⟨g, 0, none⟩) lg).trans c0
  rw [← hW5]
  have HG5 := Aside0.mk (blk_below FG.out HB5.out)
  have HS5 := Aside0.mk (blk_below FS.out HB5.out)
  clear hW5 hm3 hcv c0
  go_loopg [6, 27] n (fun gg _ s27 wr => ∃ (j : Nat) (l : List ByteArray), s27 = .int .i64 j ∧ j ≤ n ∧ n - j ≤ gg ∧ Aside0 (l.length = n) ∧ Aside0 (∀ i, i < j → l[i]? = some zeros140) ∧ Aside0 (wr.heap[sb]? = some (.cells (strs l) 9 (0, 0))) ∧ Aside0 (Kept W4 wr (fun k => k = sb)) ∧ Aside0 (Below W.heap.size W wr))
  case atStart => exact ⟨0, List.replicate n ⟨#[]⟩, by go_num, Nat.zero_le _, by omega, ⟨by simp⟩, ⟨fun i hi => by omega⟩, HS5, ⟨Kept.of_below HB5.out _⟩, ⟨below_step HFB.out HB5.out⟩⟩
  case round =>
   obtain ⟨j, l, rfl, hj, hgg, HLL, HLI, HXR, HKR, HBR⟩ := hrel
   have hgr := blk_kept FG.out HKR.out hgs
   have cg : wr.cell? ⟨g, 0, none⟩ = some (.slice (some ⟨sb, 0, none⟩) n n) := by rw [blk_cell hgr]; rfl
   have HGR := Aside0.mk hgr
   clear hgr
   by_cases hlt : j < n
   ·have hltz : (j : Int) < (n : Int) := by omega
    have cj : wr.cell? ⟨sb, j, none⟩ = some (.string (l[j]'(by have := HLL.out; omega))) := by rw [blk_cell HXR.out]; exact strs_at l j (by have := HLL.out; omega)
    have fj : wr.frozen? ⟨sb, j, none⟩ = false := blk_frozen HXR.out j
    go_wp2_with fail
    go_roundg (n - (j + 1))
    case measure => omega
    case rel =>
     refine ⟨j + 1, l.set j zeros140, by go_num, by omega, Nat.le_refl _, ⟨by rw [List.length_set]; exact HLL.out⟩, ⟨fun i hi => ?_⟩, ⟨blk_put HXR.out j _ (strs_set _ _ _)⟩, ⟨HKR.out.setCell (Or.inl rfl) _⟩, ⟨HBR.out.setCell (HR.out sb (Or.inr (Or.inl rfl))) _⟩⟩
     have := HLL.out
     rw [List.getElem?_set]
     by_cases e : j = i
     ·rw [if_pos e, if_pos (by omega)]
     ·rw [if_neg e]; exact HLI.out i (by omega)
   ·obtain rfl : j = n := by omega
    have hleq : l = List.replicate j zeros140 := by
     apply List.ext_getElem?
     intro i
     rw [List.getElem?_replicate]
     by_cases hi : i < j
     ·rw [if_pos hi]; exact HLI.out i hi
     ·rw [if_neg hi]; exact List.getElem?_eq_none (by have := HLL.out; omega)
    have hdev := newAt (W := W) (W4 := wr) (n := j) (L := ⟨g, sb, ob, bm⟩) h1 (HGR.out.trans (by unfold gcells newS; simp only [List.length_replicate])) (by rw [← hleq]; exact HXR.out) (blk_kept FO.out HKR.out (fun e => HSO.out e.symm)) ((HKR.out.2 bm (Array.getElem?_eq_some_iff.1 FM.out).1 (fun e => HSM.out e.symm)).trans FM.out) HR.out
    have HDEV := Aside0.mk hdev
    clear hleq hdev
    go_wp2_with fail
    go_ret2
    exact ⟨⟨g, sb, ob, bm⟩, _, rfl, HDEV.out, HBR.out⟩
 ·obtain ⟨f0, f1, f2, f3, fs, fb⟩ := four W (.cells (strs (List.replicate n ⟨#[]⟩)) 9) (.map #[] 0) (.cells (nils n) 26) (.cells #[.slice (some ⟨W.heap.size, 0, none⟩) n n, .slice (some ⟨W.heap.size + 1 + 1, 0, none⟩) n n, .slice none 0 0, .map (some (W.heap.size + 1)), .bool false, .int .i64 0, .slice none 0 0, .bool false] 81)
  obtain ⟨W4, hW4⟩ : ∃ W4, W4 = ((((W.alloc (.cells (strs (List.replicate n ⟨#[]⟩)) 9)).alloc (.map #[] 0)).alloc (.cells (nils n) 26)).alloc (.cells #[.slice (some ⟨W.heap.size, 0, none⟩) n n, .slice (some ⟨W.heap.size + 1 + 1, 0, none⟩) n n, .slice none 0 0, .map (some (W.heap.size + 1)), .bool false, .int .i64 0, .slice none 0 0, .bool false] 81)).drew := ⟨_, rfl⟩
  rw [← hW4] at f0 f1 f2 f3 fs fb ⊢
  have HFB := Aside0.mk fb
  obtain ⟨sb, hsb⟩ : ∃ sb, sb = W.heap.size := ⟨_, rfl⟩
  obtain ⟨ob, hob⟩ : ∃ ob, ob = W.heap.size + 1 + 1 := ⟨_, rfl⟩
  obtain ⟨bm, hbm⟩ : ∃ bm, bm = W.heap.size + 1 := ⟨_, rfl⟩
  obtain ⟨g, hg⟩ : ∃ g, g = W.heap.size + 1 + 1 + 1 := ⟨_, rfl⟩
  rw [← hg] at f3 ⊢
  rw [← hob, ← hbm, ← hsb] at f3 ⊢
  rw [← hsb] at f0
  rw [← hob] at f2
  rw [← hbm] at f1
  have FS := Aside0.mk f0
  have FO := Aside0.mk f2
  have FM := Aside0.mk f1
  have FG := Aside0.mk f3
  have HR := Aside0.mk (show ∀ k, (k = g ∨ k = sb ∨ k = ob ∨ k = bm) → W.heap.size ≤ k from fun k hk => by rcases hk with e | e | e | e <;> omega)
  have lg : g < W4.heap.size := blk_lt f3
  have c0 : W4.cell? ⟨g, 0, none⟩ = some (.slice (some ⟨sb, 0, none⟩) n n) := by rw [blk_cell f3]; rfl
  have hsg : sb ≠ g := blk_ne FS.out FG.out (by decide)
  have hso : sb ≠ ob := blk_ne FS.out FO.out (by decide)
  have hsm : sb ≠ bm := fun e => by have h1 := FS.out; rw [e] at h1; have h2 := h1.symm.trans FM.out; cases h2
  have hgs : g ≠ sb := fun e => hsg e.symm
  have HSO := Aside0.mk hso
  have HSM := Aside0.mk hsm
  clear f0 f1 f2 f3 fs fb hsb hob hbm hg hW4 hm1 hm2 hso hsm hk
  go_wp2_with fail
  obtain ⟨W5, hW5⟩ : ∃ W5, W5 = W4.alloc (.cells (madeCells #[.int .u8 0] 140) 5) := ⟨_, rfl⟩
  have HB5 := Aside0.mk (show Below W4.heap.size W4 W5 by rw [hW5]; exact below_alloc (Below.refl _ _) _)
  have c05 : W5.cell? ⟨g, 0, none⟩ = some (.slice (some ⟨sb, 0, none⟩) n n) := (HB5.out.cell (p := ⟨g, 0, none⟩) lg).trans c0
  rw [← hW5]
  have HG5 := Aside0.mk (blk_below FG.out HB5.out)
  have HS5 := Aside0.mk (blk_below FS.out HB5.out)
  clear hW5 hm3 hcv c0
  go_loopg [6, 27] n (fun gg _ s27 wr => ∃ (j : Nat) (l : List ByteArray), s27 = .int .i64 j ∧ j ≤ n ∧ n - j ≤ gg ∧ Aside0 (l.length = n) ∧ Aside0 (∀ i, i < j → l[i]? = some zeros140) ∧ Aside0 (wr.heap[sb]? = some (.cells (strs l) 9 (0, 0))) ∧ Aside0 (Kept W4 wr (fun k => k = sb)) ∧ Aside0 (Below W.heap.size W wr))
  case atStart => exact ⟨0, List.replicate n ⟨#[]⟩, by go_num, Nat.zero_le _, by omega, ⟨by simp⟩, ⟨fun i hi => by omega⟩, HS5, ⟨Kept.of_below HB5.out _⟩, ⟨below_step HFB.out HB5.out⟩⟩
  case round =>
   obtain ⟨j, l, rfl, hj, hgg, HLL, HLI, HXR, HKR, HBR⟩ := hrel
   have hgr := blk_kept FG.out HKR.out hgs
   have cg : wr.cell? ⟨g, 0, none⟩ = some (.slice (some ⟨sb, 0, none⟩) n n) := by rw [blk_cell hgr]; rfl
   have HGR := Aside0.mk hgr
   clear hgr
   by_cases hlt : j < n
   ·have hltz : (j : Int) < (n : Int) := by omega
    have cj : wr.cell? ⟨sb, j, none⟩ = some (.string (l[j]'(by have := HLL.out; omega))) := by rw [blk_cell HXR.out]; exact strs_at l j (by have := HLL.out; omega)
    have fj : wr.frozen? ⟨sb, j, none⟩ = false := blk_frozen HXR.out j
    go_wp2_with fail
    go_roundg (n - (j + 1))
    case measure => omega
    case rel =>
     refine ⟨j + 1, l.set j zeros140, by go_num, by omega, Nat.le_refl _, ⟨by rw [List.length_set]; exact HLL.out⟩, ⟨fun i hi => ?_⟩, ⟨blk_put HXR.out j _ (strs_set _ _ _)⟩, ⟨HKR.out.setCell (Or.inl rfl) _⟩, ⟨HBR.out.setCell (HR.out sb (Or.inr (Or.inl rfl))) _⟩⟩
     have := HLL.out
     rw [List.getElem?_set]
     by_cases e : j = i
     ·rw [if_pos e, if_pos (by omega)]
     ·rw [if_neg e]; exact HLI.out i (by omega)
   ·obtain rfl : j = n := by omega
    have hleq : l = List.replicate j zeros140 := by
     apply List.ext_getElem?
     intro i
     rw [List.getElem?_replicate]
     by_cases hi : i < j
     ·rw [if_pos hi]; exact HLI.out i hi
     ·rw [if_neg hi]; exact List.getElem?_eq_none (by have := HLL.out; omega)
    have hdev := newAt (W := W) (W4 := wr) (n := j) (L := ⟨g, sb, ob, bm⟩) h1 (HGR.out.trans (by unfold gcells newS; simp only [List.length_replicate])) (by rw [← hleq]; exact HXR.out) (blk_kept FO.out HKR.out (fun e => HSO.out e.symm)) ((HKR.out.2 bm (Array.getElem?_eq_some_iff.1 FM.out).1 (fun e => HSM.out e.symm)).trans FM.out) HR.out
    have HDEV := Aside0.mk hdev
    clear hleq hdev
    go_wp2_with fail
    go_ret2
    exact ⟨⟨g, sb, ob, bm⟩, _, rfl, HDEV.out, HBR.out⟩
 ·obtain ⟨f0, f1, f2, f3, fs, fb⟩ := four W (.cells (nils n) 26) (.cells (strs (List.replicate n ⟨#[]⟩)) 9) (.map #[] 0) (.cells #[.slice (some ⟨W.heap.size + 1, 0, none⟩) n n, .slice (some ⟨W.heap.size, 0, none⟩) n n, .slice none 0 0, .map (some (W.heap.size + 1 + 1)), .bool false, .int .i64 0, .slice none 0 0, .bool false] 81)
  obtain ⟨W4, hW4⟩ : ∃ W4, W4 = ((((W.alloc (.cells (nils n) 26)).alloc (.cells (strs (List.replicate n ⟨#[]⟩)) 9)).alloc (.map #[] 0)).alloc (.cells #[.slice (some ⟨W.heap.size + 1, 0, none⟩) n n, .slice (some ⟨W.heap.size, 0, none⟩) n n, .slice none 0 0, .map (some (W.heap.size + 1 + 1)), .bool false, .int .i64 0, .slice none 0 0, .bool false] 81)).drew := ⟨_, rfl⟩
  rw [← hW4] at f0 f1 f2 f3 fs fb ⊢
  have HFB := Aside0.mk fb
  obtain ⟨sb, hsb⟩ : ∃ sb, sb = W.heap.size + 1 := ⟨_, rfl⟩
  obtain ⟨ob, hob⟩ : ∃ ob, ob = W.heap.size := ⟨_, rfl⟩
  obtain ⟨bm, hbm⟩ : ∃ bm, bm = W.heap.size + 1 + 1 := ⟨_, rfl⟩
  obtain ⟨g, hg⟩ : ∃ g, g = W.heap.size + 1 + 1 + 1 := ⟨_, rfl⟩
  rw [← hg] at f3 ⊢
  rw [← hbm, ← hsb, ← hob] at f3 ⊢
  rw [← hsb] at f1
  rw [← hob] at f0
  rw [← hbm] at f2
  have FS := Aside0.mk f1
  have FO := Aside0.mk f0
  have FM := Aside0.mk f2
  have FG := Aside0.mk f3
  have HR := Aside0.mk (show ∀ k, (k = g ∨ k = sb ∨ k = ob ∨ k = bm) → W.heap.size ≤ k from fun k hk => by rcases hk with e | e | e | e <;> omega)
  have lg : g < W4.heap.size := blk_lt f3
  have c0 : W4.cell? ⟨g, 0, none⟩ = some (.slice (some ⟨sb, 0, none⟩) n n) := by rw [blk_cell f3]; rfl
  have hsg : sb ≠ g := blk_ne FS.out FG.out (by decide)
  have hso : sb ≠ ob := blk_ne FS.out FO.out (by decide)
  have hsm : sb ≠ bm := fun e => by have h1 := FS.out; rw [e] at h1; have h2 := h1.symm.trans FM.out; cases h2
  have hgs : g ≠ sb := fun e => hsg e.symm
  have HSO := Aside0.mk hso
  have HSM := Aside0.mk hsm
  clear f0 f1 f2 f3 fs fb hsb hob hbm hg hW4 hm1 hm2 hso hsm hk
  go_wp2_with fail
  obtain ⟨W5, hW5⟩ : ∃ W5, W5 = W4.alloc (.cells (madeCells #[.int .u8 0] 140) 5) := ⟨_, rfl⟩
  have HB5 := Aside0.mk (show Below W4.heap.size W4 W5 by rw [hW5]; exact below_alloc (Below.refl _ _) _)
  have c05 : W5.cell? ⟨g, 0, none⟩ = some (.slice (some ⟨sb, 0, none⟩) n n) := (HB5.out.cell (p := ⟨g, 0, none⟩) lg).trans c0
  rw [← hW5]
  have HG5 := Aside0.mk (blk_below FG.out HB5.out)
  have HS5 := Aside0.mk (blk_below FS.out HB5.out)
  clear hW5 hm3 hcv c0
  go_loopg [6, 27] n (fun gg _ s27 wr => ∃ (j : Nat) (l : List ByteArray), s27 = .int .i64 j ∧ j ≤ n ∧ n - j ≤ gg ∧ Aside0 (l.length = n) ∧ Aside0 (∀ i, i < j → l[i]? = some zeros140) ∧ Aside0 (wr.heap[sb]? = some (.cells (strs l) 9 (0, 0))) ∧ Aside0 (Kept W4 wr (fun k => k = sb)) ∧ Aside0 (Below W.heap.size W wr))
  case atStart => exact ⟨0, List.replicate n ⟨#[]⟩, by go_num, Nat.zero_le _, by omega, ⟨by simp⟩, ⟨fun i hi => by omega⟩, HS5, ⟨Kept.of_below HB5.out _⟩, ⟨below_step HFB.out HB5.out⟩⟩
  case round =>
   obtain ⟨j, l, rfl, hj, hgg, HLL, HLI, HXR, HKR, HBR⟩ := hrel
   have hgr := blk_kept FG.out HKR.out hgs
   have cg : wr.cell? ⟨g, 0, none⟩ = some (.slice (some ⟨sb, 0, none⟩) n n) := by rw [blk_cell hgr]; rfl
   have HGR := Aside0.mk hgr
   clear hgr
   by_cases hlt : j < n
   ·have hltz : (j : Int) < (n : Int) := by omega
    have cj : wr.cell? ⟨sb, j, none⟩ = some (.string (l[j]'(by have := HLL.out; omega))) := by rw [blk_cell HXR.out]; exact strs_at l j (by have := HLL.out; omega)
    have fj : wr.frozen? ⟨sb, j, none⟩ = false := blk_frozen HXR.out j
    go_wp2_with fail
    go_roundg (n - (j + 1))
    case measure => omega
    case rel =>
     refine ⟨j + 1, l.set j zeros140, by go_num, by omega, Nat.le_refl _, ⟨by rw [List.length_set]; exact HLL.out⟩, ⟨fun i hi => ?_⟩, ⟨blk_put HXR.out j _ (strs_set _ _ _)⟩, ⟨HKR.out.setCell (Or.inl rfl) _⟩, ⟨HBR.out.setCell (HR.out sb (Or.inr (Or.inl rfl))) _⟩⟩
     have := HLL.out
     rw [List.getElem?_set]
     by_cases e : j = i
     ·rw [if_pos e, if_pos (by omega)]
     ·rw [if_neg e]; exact HLI.out i (by omega)
   ·obtain rfl : j = n := by omega
    have hleq : l = List.replicate j zeros140 := by
     apply List.ext_getElem?
     intro i
     rw [List.getElem?_replicate]
     by_cases hi : i < j
     ·rw [if_pos hi]; exact HLI.out i hi
     ·rw [if_neg hi]; exact List.getElem?_eq_none (by have := HLL.out; omega)
    have hdev := newAt (W := W) (W4 := wr) (n := j) (L := ⟨g, sb, ob, bm⟩) h1 (HGR.out.trans (by unfold gcells newS; simp only [List.length_replicate])) (by rw [← hleq]; exact HXR.out) (blk_kept FO.out HKR.out (fun e => HSO.out e.symm)) ((HKR.out.2 bm (Array.getElem?_eq_some_iff.1 FM.out).1 (fun e => HSM.out e.symm)).trans FM.out) HR.out
    have HDEV := Aside0.mk hdev
    clear hleq hdev
    go_wp2_with fail
    go_ret2
    exact ⟨⟨g, sb, ob, bm⟩, _, rfl, HDEV.out, HBR.out⟩
 ·obtain ⟨f0, f1, f2, f3, fs, fb⟩ := four W (.cells (nils n) 26) (.map #[] 0) (.cells (strs (List.replicate n ⟨#[]⟩)) 9) (.cells #[.slice (some ⟨W.heap.size + 1 + 1, 0, none⟩) n n, .slice (some ⟨W.heap.size, 0, none⟩) n n, .slice none 0 0, .map (some (W.heap.size + 1)), .bool false, .int .i64 0, .slice none 0 0, .bool false] 81)
  obtain ⟨W4, hW4⟩ : ∃ W4, W4 = ((((W.alloc (.cells (nils n) 26)).alloc (.map #[] 0)).alloc (.cells (strs (List.replicate n ⟨#[]⟩)) 9)).alloc (.cells #[.slice (some ⟨W.heap.size + 1 + 1, 0, none⟩) n n, .slice (some ⟨W.heap.size, 0, none⟩) n n, .slice none 0 0, .map (some (W.heap.size + 1)), .bool false, .int .i64 0, .slice none 0 0, .bool false] 81)).drew := ⟨_, rfl⟩
  rw [← hW4] at f0 f1 f2 f3 fs fb ⊢
  have HFB := Aside0.mk fb
  obtain ⟨sb, hsb⟩ : ∃ sb, sb = W.heap.size + 1 + 1 := ⟨_, rfl⟩
  obtain ⟨ob, hob⟩ : ∃ ob, ob = W.heap.size := ⟨_, rfl⟩
  obtain ⟨bm, hbm⟩ : ∃ bm, bm = W.heap.size + 1 := ⟨_, rfl⟩
  obtain ⟨g, hg⟩ : ∃ g, g = W.heap.size + 1 + 1 + 1 := ⟨_, rfl⟩
  rw [← hg] at f3 ⊢
  rw [← hsb, ← hbm, ← hob] at f3 ⊢
  rw [← hsb] at f2
  rw [← hob] at f0
  rw [← hbm] at f1
  have FS := Aside0.mk f2
  have FO := Aside0.mk f0
  have FM := Aside0.mk f1
  have FG := Aside0.mk f3
  have HR := Aside0.mk (show ∀ k, (k = g ∨ k = sb ∨ k = ob ∨ k = bm) → W.heap.size ≤ k from fun k hk => by rcases hk with e | e | e | e <;> omega)
  have lg : g < W4.heap.size := blk_lt f3
  have c0 : W4.cell? ⟨g, 0, none⟩ = some (.slice (some ⟨sb, 0, none⟩) n n) := by rw [blk_cell f3]; rfl
  have hsg : sb ≠ g := blk_ne FS.out FG.out (by decide)
  have hso : sb ≠ ob := blk_ne FS.out FO.out (by decide)
  have hsm : sb ≠ bm := fun e => by have h1 := FS.out; rw [e] at h1; have h2 := h1.symm.trans FM.out; cases h2
  have hgs : g ≠ sb := fun e => hsg e.symm
  have HSO := Aside0.mk hso
  have HSM := Aside0.mk hsm
  clear f0 f1 f2 f3 fs fb hsb hob hbm hg hW4 hm1 hm2 hso hsm hk
  go_wp2_with fail
  obtain ⟨W5, hW5⟩ : ∃ W5, W5 = W4.alloc (.cells (madeCells #[.int .u8 0] 140) 5) := ⟨_, rfl⟩
  have HB5 := Aside0.mk (show Below W4.heap.size W4 W5 by rw [hW5]; exact below_alloc (Below.refl _ _) _)
  have c05 : W5.cell? ⟨g, 0, none⟩ = some (.slice (some ⟨sb, 0, none⟩) n n) := (HB5.out.cell (p := ⟨g, 0, none⟩) lg).trans c0
  rw [← hW5]
  have HG5 := Aside0.mk (blk_below FG.out HB5.out)
  have HS5 := Aside0.mk (blk_below FS.out HB5.out)
  clear hW5 hm3 hcv c0
  go_loopg [6, 27] n (fun gg _ s27 wr => ∃ (j : Nat) (l : List ByteArray), s27 = .int .i64 j ∧ j ≤ n ∧ n - j ≤ gg ∧ Aside0 (l.length = n) ∧ Aside0 (∀ i, i < j → l[i]? = some zeros140) ∧ Aside0 (wr.heap[sb]? = some (.cells (strs l) 9 (0, 0))) ∧ Aside0 (Kept W4 wr (fun k => k = sb)) ∧ Aside0 (Below W.heap.size W wr))
  case atStart => exact ⟨0, List.replicate n ⟨#[]⟩, by go_num, Nat.zero_le _, by omega, ⟨by simp⟩, ⟨fun i hi => by omega⟩, HS5, ⟨Kept.of_below HB5.out _⟩, ⟨below_step HFB.out HB5.out⟩⟩
  case round =>
   obtain ⟨j, l, rfl, hj, hgg, HLL, HLI, HXR, HKR, HBR⟩ := hrel
   have hgr := blk_kept FG.out HKR.out hgs
   have cg : wr.cell? ⟨g, 0, none⟩ = some (.slice (some ⟨sb, 0, none⟩) n n) := by rw [blk_cell hgr]; rfl
   have HGR := Aside0.mk hgr
   clear hgr
   by_cases hlt : j < n
   ·have hltz : (j : Int) < (n : Int) := by omega
    have cj : wr.cell? ⟨sb, j, none⟩ = some (.string (l[j]'(by have := HLL.out; omega))) := by rw [blk_cell HXR.out]; exact strs_at l j (by have := HLL.out; omega)
    have fj : wr.frozen? ⟨sb, j, none⟩ = false := blk_frozen HXR.out j
    go_wp2_with fail
    go_roundg (n - (j + 1))
    case measure => omega
    case rel =>
     refine ⟨j + 1, l.set j zeros140, by go_num, by omega, Nat.le_refl _, ⟨by rw [List.length_set]; exact HLL.out⟩, ⟨fun i hi => ?_⟩, ⟨blk_put HXR.out j _ (strs_set _ _ _)⟩, ⟨HKR.out.setCell (Or.inl rfl) _⟩, ⟨HBR.out.setCell (HR.out sb (Or.inr (Or.inl rfl))) _⟩⟩
     have := HLL.out
     rw [List.getElem?_set]
     by_cases e : j = i
     ·rw [if_pos e, if_pos (by omega)]
     ·rw [if_neg e]; exact HLI.out i (by omega)
   ·obtain rfl : j = n := by omega
    have hleq : l = List.replicate j zeros140 := by
     apply List.ext_getElem?
     intro i
     rw [List.getElem?_replicate]
     by_cases hi : i < j
     ·rw [if_pos hi]; exact HLI.out i hi
     ·rw [if_neg hi]; exact List.getElem?_eq_none (by have := HLL.out; omega)
    have hdev := newAt (W := W) (W4 := wr) (n := j) (L := ⟨g, sb, ob, bm⟩) h1 (HGR.out.trans (by unfold gcells newS; simp only [List.length_replicate])) (by rw [← hleq]; exact HXR.out) (blk_kept FO.out HKR.out (fun e => HSO.out e.symm)) ((HKR.out.2 bm (Array.getElem?_eq_some_iff.1 FM.out).1 (fun e => HSM.out e.symm)).trans FM.out) HR.out
    have HDEV := Aside0.mk hdev
    clear hleq hdev
    go_wp2_with fail
    go_ret2
    exact ⟨⟨g, sb, ob, bm⟩, _, rfl, HDEV.out, HBR.out⟩
 ·obtain ⟨f0, f1, f2, f3, fs, fb⟩ := four W (.map #[] 0) (.cells (strs (List.replicate n ⟨#[]⟩)) 9) (.cells (nils n) 26) (.cells #[.slice (some ⟨W.heap.size + 1, 0, none⟩) n n, .slice (some ⟨W.heap.size + 1 + 1, 0, none⟩) n n, .slice none 0 0, .map (some (W.heap.size)), .bool false, .int .i64 0, .slice none 0 0, .bool false] 81)
  obtain ⟨W4, hW4⟩ : ∃ W4, W4 = ((((W.alloc (.map #[] 0)).alloc (.cells (strs (List.replicate n ⟨#[]⟩)) 9)).alloc (.cells (nils n) 26)).alloc (.cells #[.slice (some ⟨W.heap.size + 1, 0, none⟩) n n, .slice (some ⟨W.heap.size + 1 + 1, 0, none⟩) n n, .slice none 0 0, .map (some (W.heap.size)), .bool false, .int .i64 0, .slice none 0 0, .bool false] 81)).drew := ⟨_, rfl⟩
  rw [← hW4] at f0 f1 f2 f3 fs fb ⊢
  have HFB := Aside0.mk fb
  obtain ⟨sb, hsb⟩ : ∃ sb, sb = W.heap.size + 1 := ⟨_, rfl⟩
  obtain ⟨ob, hob⟩ : ∃ ob, ob = W.heap.size + 1 + 1 := ⟨_, rfl⟩
  obtain ⟨bm, hbm⟩ : ∃ bm, bm = W.heap.size := ⟨_, rfl⟩
  obtain ⟨g, hg⟩ : ∃ g, g = W.heap.size + 1 + 1 + 1 := ⟨_, rfl⟩
  rw [← hg] at f3 ⊢
  rw [← hob, ← hsb, ← hbm] at f3 ⊢
  rw [← hsb] at f1
  rw [← hob] at f2
  rw [← hbm] at f0
  have FS := Aside0.mk f1
  have FO := Aside0.mk f2
  have FM := Aside0.mk f0
  have FG := Aside0.mk f3
  have HR := Aside0.mk (show ∀ k, (k = g ∨ k = sb ∨ k = ob ∨ k = bm) → W.heap.size ≤ k from fun k hk => by rcases hk with e | e | e | e <;> omega)
  have lg : g < W4.heap.size := blk_lt f3
  have c0 : W4.cell? ⟨g, 0, none⟩ = some (.slice (some ⟨sb, 0, none⟩) n n) := by rw [blk_cell f3]; rfl
  have hsg : sb ≠ g := blk_ne FS.out FG.out (by decide)
  have hso : sb ≠ ob := blk_ne FS.out FO.out (by decide)
  have hsm : sb ≠ bm := fun e => by have h1 := FS.out; rw [e] at h1; have h2 := h1.symm.trans FM.out; cases h2
  have hgs : g ≠ sb := fun e => hsg e.symm
  have HSO := Aside0.mk hso
  have HSM := Aside0.mk hsm
  clear f0 f1 f2 f3 fs fb hsb hob hbm hg hW4 hm1 hm2 hso hsm hk
  go_wp2_with fail
  obtain ⟨W5, hW5⟩ : ∃ W5, W5 = W4.alloc (.cells (madeCells #[.int .u8 0] 140) 5) := ⟨_, rfl⟩
  have HB5 := Aside0.mk (show Below W4.heap.size W4 W5 by rw [hW5]; exact below_alloc (Below.refl _ _) _)
  have c05 : W5.cell? ⟨g, 0, none⟩ = some (.slice (some ⟨sb, 0, none⟩) n n) := (HB5.out.cell (p := ⟨g, 0, none⟩) lg).trans c0
  rw [← hW5]
  have HG5 := Aside0.mk (blk_below FG.out HB5.out)
  have HS5 := Aside0.mk (blk_below FS.out HB5.out)
  clear hW5 hm3 hcv c0
  go_loopg [6, 27] n (fun gg _ s27 wr => ∃ (j : Nat) (l : List ByteArray), s27 = .int .i64 j ∧ j ≤ n ∧ n - j ≤ gg ∧ Aside0 (l.length = n) ∧ Aside0 (∀ i, i < j → l[i]? = some zeros140) ∧ Aside0 (wr.heap[sb]? = some (.cells (strs l) 9 (0, 0))) ∧ Aside0 (Kept W4 wr (fun k => k = sb)) ∧ Aside0 (Below W.heap.size W wr))
  case atStart => exact ⟨0, List.replicate n ⟨#[]⟩, by go_num, Nat.zero_le _, by omega, ⟨by simp⟩, ⟨fun i hi => by omega⟩, HS5, ⟨Kept.of_below HB5.out _⟩, ⟨below_step HFB.out HB5.out⟩⟩
  case round =>
   obtain ⟨j, l, rfl, hj, hgg, HLL, HLI, HXR, HKR, HBR⟩ := hrel
   have hgr := blk_kept FG.out HKR.out hgs
   have cg : wr.cell? ⟨g, 0, none⟩ = some (.slice (some ⟨sb, 0, none⟩) n n) := by rw [blk_cell hgr]; rfl
   have HGR := Aside0.mk hgr
   clear hgr
   by_cases hlt : j < n
   ·have hltz : (j : Int) < (n : Int) := by omega
    have cj : wr.cell? ⟨sb, j, none⟩ = some (.string (l[j]'(by have := HLL.out; omega))) := by rw [blk_cell HXR.out]; exact strs_at l j (by have := HLL.out; omega)
    have fj : wr.frozen? ⟨sb, j, none⟩ = false := blk_frozen HXR.out j
    go_wp2_with fail
    go_roundg (n - (j + 1))
    case measure => omega
    case rel =>
     refine ⟨j + 1, l.set j zeros140, by go_num, by omega, Nat.le_refl _, ⟨by rw [List.length_set]; exact HLL.out⟩, ⟨fun i hi => ?_⟩, ⟨blk_put HXR.out j _ (strs_set _ _ _)⟩, ⟨HKR.out.setCell (Or.inl rfl) _⟩, ⟨HBR.out.setCell (HR.out sb (Or.inr (Or.inl rfl))) _⟩⟩
     have := HLL.out
     rw [List.getElem?_set]
     by_cases e : j = i
     ·rw [if_pos e, if_pos (by omega)]
     ·rw [if_neg e]; exact HLI.out i (by omega)
   ·obtain rfl : j = n := by omega
    have hleq : l = List.replicate j zeros140 := by
     apply List.ext_getElem?
     intro i
     rw [List.getElem?_replicate]
     by_cases hi : i < j
     ·rw [if_pos hi]; exact HLI.out i hi
     ·rw [if_neg hi]; exact List.getElem?_eq_none (by have := HLL.out; omega)
    have hdev := newAt (W := W) (W4 := wr) (n := j) (L := ⟨g, sb, ob, bm⟩) h1 (HGR.out.trans (by unfold gcells newS; simp only [List.length_replicate])) (by rw [← hleq]; exact HXR.out) (blk_kept FO.out HKR.out (fun e => HSO.out e.symm)) ((HKR.out.2 bm (Array.getElem?_eq_some_iff.1 FM.out).1 (fun e => HSM.out e.symm)).trans FM.out) HR.out
    have HDEV := Aside0.mk hdev
    clear hleq hdev
    go_wp2_with fail
    go_ret2
    exact ⟨⟨g, sb, ob, bm⟩, _, rfl, HDEV.out, HBR.out⟩
 ·obtain ⟨f0, f1, f2, f3, fs, fb⟩ := four W (.map #[] 0) (.cells (nils n) 26) (.cells (strs (List.replicate n ⟨#[]⟩)) 9) (.cells #[.slice (some ⟨W.heap.size + 1 + 1, 0, none⟩) n n, .slice (some ⟨W.heap.size + 1, 0, none⟩) n n, .slice none 0 0, .map (some (W.heap.size)), .bool false, .int .i64 0, .slice none 0 0, .bool false] 81)
  obtain ⟨W4, hW4⟩ : ∃ W4, W4 = ((((W.alloc (.map #[] 0)).alloc (.cells (nils n) 26)).alloc (.cells (strs (List.replicate n ⟨#[]⟩)) 9)).alloc (.cells #[.slice (some ⟨W.heap.size + 1 + 1, 0, none⟩) n n, .slice (some ⟨W.heap.size + 1, 0, none⟩) n n, .slice none 0 0, .map (some (W.heap.size)), .bool false, .int .i64 0, .slice none 0 0, .bool false] 81)).drew := ⟨_, rfl⟩
  rw [← hW4] at f0 f1 f2 f3 fs fb ⊢
  have HFB := Aside0.mk fb
  obtain ⟨sb, hsb⟩ : ∃ sb, sb = W.heap.size + 1 + 1 := ⟨_, rfl⟩
  obtain ⟨ob, hob⟩ : ∃ ob, ob = W.heap.size + 1 := ⟨_, rfl⟩
  obtain ⟨bm, hbm⟩ : ∃ bm, bm = W.heap.size := ⟨_, rfl⟩
  obtain ⟨g, hg⟩ : ∃ g, g = W.heap.size + 1 + 1 + 1 := ⟨_, rfl⟩
  rw [← hg] at f3 ⊢
  rw [← hsb, ← hob, ← hbm] at f3 ⊢
  rw [← hsb] at f2
  rw [← hob] at f1
  rw [← hbm] at f0
  have FS := Aside0.mk f2
  have FO := Aside0.mk f1
  have FM := Aside0.mk f0
  have FG := Aside0.mk f3
  have HR := Aside0.mk (show ∀ k, (k = g ∨ k = sb ∨ k = ob ∨ k = bm) → W.heap.size ≤ k from fun k hk => by rcases hk with e | e | e | e <;> omega)
  have lg : g < W4.heap.size := blk_lt f3
  have c0 : W4.cell? ⟨g, 0, none⟩ = some (.slice (some ⟨sb, 0, none⟩) n n) := by rw [blk_cell f3]; rfl
  have hsg : sb ≠ g := blk_ne FS.out FG.out (by decide)
  have hso : sb ≠ ob := blk_ne FS.out FO.out (by decide)
  have hsm : sb ≠ bm := fun e => by have h1 := FS.out; rw [e] at h1; have h2 := h1.symm.trans FM.out; cases h2
  have hgs : g ≠ sb := fun e => hsg e.symm
  have HSO := Aside0.mk hso
  have HSM := Aside0.mk hsm
  clear f0 f1 f2 f3 fs fb hsb hob hbm hg hW4 hm1 hm2 hso hsm hk
  go_wp2_with fail
  obtain ⟨W5, hW5⟩ : ∃ W5, W5 = W4.alloc (.cells (madeCells #[.int .u8 0] 140) 5) := ⟨_, rfl⟩
  have HB5 := Aside0.mk (show Below W4.heap.size W4 W5 by rw [hW5]; exact below_alloc (Below.refl _ _) _)
  have c05 : W5.cell? ⟨g, 0, none⟩ = some (.slice (some ⟨sb, 0, none⟩) n n) := (HB5.out.cell (p := ⟨g, 0, none⟩) lg).trans c0
  rw [← hW5]
  have HG5 := Aside0.mk (blk_below FG.out HB5.out)
  have HS5 := Aside0.mk (blk_below FS.out HB5.out)
  clear hW5 hm3 hcv c0
  go_loopg [6, 27] n (fun gg _ s27 wr => ∃ (j : Nat) (l : List ByteArray), s27 = .int .i64 j ∧ j ≤ n ∧ n - j ≤ gg ∧ Aside0 (l.length = n) ∧ Aside0 (∀ i, i < j → l[i]? = some zeros140) ∧ Aside0 (wr.heap[sb]? = some (.cells (strs l) 9 (0, 0))) ∧ Aside0 (Kept W4 wr (fun k => k = sb)) ∧ Aside0 (Below W.heap.size W wr))
  case atStart => exact ⟨0, List.replicate n ⟨#[]⟩, by go_num, Nat.zero_le _, by omega, ⟨by simp⟩, ⟨fun i hi => by omega⟩, HS5, ⟨Kept.of_below HB5.out _⟩, ⟨below_step HFB.out HB5.out⟩⟩
  case round =>
   obtain ⟨j, l, rfl, hj, hgg, HLL, HLI, HXR, HKR, HBR⟩ := hrel
   have hgr := blk_kept FG.out HKR.out hgs
   have cg : wr.cell? ⟨g, 0, none⟩ = some (.slice (some ⟨sb, 0, none⟩) n n) := by rw [blk_cell hgr]; rfl
   have HGR := Aside0.mk hgr
   clear hgr
   by_cases hlt : j < n
   ·have hltz : (j : Int) < (n : Int) := by omega
    have cj : wr.cell? ⟨sb, j, none⟩ = some (.string (l[j]'(by have := HLL.out; omega))) := by rw [blk_cell HXR.out]; exact strs_at l j (by have := HLL.out; omega)
    have fj : wr.frozen? ⟨sb, j, none⟩ = false := blk_frozen HXR.out j
    go_wp2_with fail
    go_roundg (n - (j + 1))
    case measure => omega
    case rel =>
     refine ⟨j + 1, l.set j zeros140, by go_num, by omega, Nat.le_refl _, ⟨by rw [List.length_set]; exact HLL.out⟩, ⟨fun i hi => ?_⟩, ⟨blk_put HXR.out j _ (strs_set _ _ _)⟩, ⟨HKR.out.setCell (Or.inl rfl) _⟩, ⟨HBR.out.setCell (HR.out sb (Or.inr (Or.inl rfl))) _⟩⟩
     have := HLL.out
     rw [List.getElem?_set]
     by_cases e : j = i
     ·rw [if_pos e, if_pos (by omega)]
     ·rw [if_neg e]; exact HLI.out i (by omega)
   ·obtain rfl : j = n := by omega
    have hleq : l = List.replicate j zeros140 := by
     apply List.ext_getElem?
     intro i
     rw [List.getElem?_replicate]
     by_cases hi : i < j
     ·rw [if_pos hi]; exact HLI.out i hi
     ·rw [if_neg hi]; exact List.getElem?_eq_none (by have := HLL.out; omega)
    have hdev := newAt (W := W) (W4 := wr) (n := j) (L := ⟨g, sb, ob, bm⟩) h1 (HGR.out.trans (by unfold gcells newS; simp only [List.length_replicate])) (by rw [← hleq]; exact HXR.out) (blk_kept FO.out HKR.out (fun e => HSO.out e.symm)) ((HKR.out.2 bm (Array.getElem?_eq_some_iff.1 FM.out).1 (fun e => HSM.out e.symm)).trans FM.out) HR.out
    have HDEV := Aside0.mk hdev
    clear hleq hdev
    go_wp2_with fail
    go_ret2
    exact ⟨⟨g, sb, ob, bm⟩, _, rfl, HDEV.out, HBR.out⟩
theorem fine_new (n : Nat) (h1 : 1 ≤ n) (h2 : n ≤ 1155) : Fine 0 (newS n) :=
  { len := by simp [newS]
    n0 := by simpa [newS] using h1
    n1 := by simpa [newS] using h2
    size := fun s hs => by
      have hs : s ∈ List.replicate n zeros140 := hs
      rw [(List.mem_replicate.1 hs).2]; rfl
    olen := fun l hl => by
      have hl : l ∈ List.replicate n ([] : List ByteArray) := hl
      rw [(List.mem_replicate.1 hl).2]; exact Nat.zero_le _
    osize := fun l hl s hs => by
      have hl : l ∈ List.replicate n ([] : List ByteArray) := hl
      rw [(List.mem_replicate.1 hl).2] at hs; cases hs
    pend := fun w hw => by cases hw
    plen := Nat.le_refl _
    l0 := ⟨Int.le_refl _, by show (0 : Int) ≤ _; decide⟩ }
end Go.Proofs.Ytflajmgichdhhaa.PG
namespace Go.Proofs.Ytflajmgichdhhaa.PG
open Go.RowKit Go.Proofs.YtflajmgichdhhaaW.PrintWords Go.Proofs.YtflajmgichdhhaaW.PrintLast Go.Proofs.YtflajmgichdhhaaW.PrintMore
set_option linter.unusedVariables false
set_option linter.unusedSimpArgs false
def padS (x : ByteArray) : ByteArray := x ++ ⟨(List.replicate (140 - x.size) 0).toArray⟩
def fullS (s : ByteArray) : ByteArray := padS (s.extract 0 140)
theorem padS_size (x : ByteArray) (h : x.size ≤ 140) : (padS x).size = 140 := by
 unfold padS
 rw [ByteArray.size_append]
 show x.size + (List.replicate (140 - x.size) (0 : UInt8)).toArray.size = 140
 rw [List.size_toArray, List.length_replicate]
 omega
theorem fullS_size (s : ByteArray) : (fullS s).size = 140 := padS_size _ (by rw [ByteArray.size_extract]; omega)
theorem pad_done (x : ByteArray) (h : 140 ≤ x.size) : padS x = x := by
 unfold padS
 rw [show 140 - x.size = 0 by omega]
 apply ByteArray.ext
 simp
theorem pad_step (x : ByteArray) (h : x.size < 140) : padS (x ++ ⟨#[0]⟩) = padS x := by
 unfold padS
 have e : (x ++ (⟨#[0]⟩ : ByteArray)).size = x.size + 1 := by rw [ByteArray.size_append]; rfl
 rw [e]
 obtain ⟨d, hd⟩ : ∃ d, 140 - x.size = d + 1 := ⟨140 - x.size - 1, by omega⟩
 rw [hd, show 140 - (x.size + 1) = d by omega]
 apply ByteArray.ext
 apply Array.toList_inj.1
 simp [List.replicate_succ]
theorem padded_l0 : ∀ (d : Nat) (x : ByteArray), 140 - x.size ≤ d → ∃ k, dasdref01_Padded.l0 k x 140 = some (padS x)
 | 0, x, h => ⟨1, by unfold dasdref01_Padded.l0; rw [if_neg (by omega), pad_done x (by omega)]⟩
 | d + 1, x, h => by
  by_cases hx : x.size < 140
  ·have e : (x ++ (⟨#[0]⟩ : ByteArray)).size = x.size + 1 := by rw [ByteArray.size_append]; rfl
   obtain ⟨k, hk⟩ := padded_l0 d (x ++ ⟨#[0]⟩) (by omega)
   refine ⟨k + 1, ?_⟩
   unfold dasdref01_Padded.l0
   rw [if_pos (by omega), if_pos (by omega), hk, pad_step x hx]
  ·exact ⟨1, by unfold dasdref01_Padded.l0; rw [if_neg (by omega), pad_done x (by omega)]⟩
theorem full_f (s : ByteArray) : ∃ k, dasdref03_Full.f k s = some (fullS s) := by
 unfold fullS
 by_cases h : (s.size : Int) > 140
 ·obtain ⟨k, hk⟩ := padded_l0 140 (s.extract 0 140) (by omega)
  refine ⟨k, ?_⟩
  unfold dasdref03_Full.f dasdref01_Padded.f
  rw [if_pos h, if_pos (by decide), if_pos (by omega), hk]
  rfl
 ·have e : s.extract 0 140 = s := by
   apply ByteArray.ext
   simp
   exact Or.inr (by omega)
  rw [e]
  obtain ⟨k, hk⟩ := padded_l0 140 s (by omega)
  refine ⟨k, ?_⟩
  unfold dasdref03_Full.f dasdref01_Padded.f
  rw [if_neg h, hk]
  rfl
theorem full_calls (W : World) (s : ByteArray) : Calls Try.prog 19 #[.string s] W fun e W' => e = .returned (.string (fullS s)) ∧ Below W.heap.size W W' := by
 obtain ⟨k, hk⟩ := full_f s
 refine (dasdref03_Full.calls k s _ W hk).mono ?_
 rintro e W' ⟨he, hd⟩
 exact ⟨he, hd.below⟩
theorem DevPost.keep {W W' : World} {B : Nat} {L : Lay} {F : Nat → Prop} {S : DevS} (h : DevPost B L F S W W') : ∃ F', DevIs W' B L F' S ∧ (∀ b o, W.heap[b]? = some o → ¬ F b → W'.heap[b]? = some o ∧ ¬ F' b) ∧ Below B W W' ∧ W.heap.size ≤ W'.heap.size := by
 obtain ⟨F', h1, h2, h3, h4⟩ := h
 refine ⟨F', h1, fun b o hb hf => ⟨blk_kept hb h3 hf, fun z => (h2 b z).elim hf (fun y => ?_)⟩, h4, h3.1⟩
 have := (Array.getElem?_eq_some_iff.1 hb).1
 omega
def awS : ByteArray := fullS ⟨#[97, 98, 99, 100, 101, 102]⟩
def awT : ByteArray := fullS ⟨#[97, 98, 99]⟩
def aw0 : DevS := newS 2
def aw1 : DevS := (writeS aw0 1 5 0 awS).2
def aw2 : DevS := finishS (isOf 1) [3] aw1
def aw3 : DevS := fenceS aw2 1 5
def aw4 : DevS := (writeS aw3 1 5 0 awS).2
theorem aw_w1 : (writeS aw0 1 5 0 awS).1 = 0 := by kernel_rfl
theorem aw_p1 : pendN aw1 1 = 1 := by kernel_rfl
theorem aw_r1 : readS aw1 0 = (awS, 0) := by kernel_rfl
theorem aw_r2 : readS aw2 0 = (awT, 0) := by kernel_rfl
theorem aw_o3 : oldN aw3 0 = 1 := by kernel_rfl
theorem aw_w4 : (writeS aw3 1 5 0 awS).1 = 13 := by kernel_rfl
theorem aw_w5 : (writeS aw4 1 6 0 awS).1 = 0 := by kernel_rfl
theorem fine_w {k : Nat} {S : DevS} (h : Fine k S) (sys ep sec : Int) (d : ByteArray) : Fine (k + 1) (writeS S sys ep sec d).2 := by
 unfold writeS
 split
 ·rename_i h1
  split
  ·rename_i h2
   split
   ·rename_i h3
    obtain ⟨e1, e2⟩ := admit_zero h3
    have ha := (h.admit sys ep).mono (Nat.le_succ k)
    have hp : 1 ≤ sys ∧ sys ≤ 4 ∧ 0 ≤ ep ∧ ep ≤ 1099511627776 := of_decide_eq_true h1.1
    refine { ha with pend := ?_, plen := ?_ }
    ·intro w hw
     rcases List.mem_append.1 (show w ∈ (admitS S sys ep).2.pend ++ [⟨sys, sec, d⟩] from hw) with hw | hw
     ·exact ha.pend w hw
     ·rw [List.mem_singleton.1 hw]
      show 1 ≤ sys ∧ sys ≤ 4 ∧ 0 ≤ sec ∧ sec < (((admitS S sys ep).2.stable.length : Nat) : Int) ∧ d.size = 140
      rw [e2]
      exact ⟨hp.1, hp.2.1, h2.1, h2.2, h1.2⟩
    ·show ((admitS S sys ep).2.pend ++ [_]).length ≤ k + 1
     rw [e1, List.length_append]
     have := h.plen
     simp
     exact this
   ·exact (h.admit sys ep).mono (Nat.le_succ k)
  ·exact h.mono (Nat.le_succ k)
 ·exact h.mono (Nat.le_succ k)
theorem Fine.fence {k : Nat} {S : DevS} (h : Fine k S) (sys ep : Int) : Fine k (fenceS S sys ep) := by
 have key : ∀ b : Bool, Fine k (if b = true then { S with fences := fun a => if a = sys then some ep else S.fences a } else S) := fun b => by
  cases b
  ·exact h
  ·exact { h with }
 unfold fenceS
 split
 ·exact h
 ·exact key _
theorem fine_aw1 : Fine 1 aw1 := fine_w (fine_new 2 (by decide) (by decide)) _ _ _ _
theorem fine_aw2 : Fine 1 aw2 := fine_aw1.finish _ _
theorem fine_aw3 : Fine 1 aw3 := fine_aw2.fence _ _
theorem fine_aw4 : Fine 2 aw4 := fine_w fine_aw3 _ _ _ _
theorem DevIs.at_ {W : World} {B : Nat} {L : Lay} {F : Nat → Prop} {S : DevS} (h : DevIs W B L F S) : ∃ vs pv uv m, DevAt W B L vs pv uv m F S := h
theorem readI {W : World} {B : Nat} {L : Lay} {F : Nat → Prop} {S : DevS} (h : DevIs W B L F S) (hpl : S.pend.length ≤ 1000000) (i : Int) :
  Calls Try.prog 23 #[.pointer (some ⟨L.g, 0, none⟩), .int .i64 i] W fun e W' => e = .returned (.tuple #[.string (readS S i).1, .int .i64 (readS S i).2]) ∧ W = W' := by
 obtain ⟨vs, pv, uv, m, h⟩ := h
 exact read_calls h hpl i
theorem pendI {W : World} {B : Nat} {L : Lay} {F : Nat → Prop} {S : DevS} (h : DevIs W B L F S) (hpl : S.pend.length ≤ 1000000) (i : Int) :
  Calls Try.prog 24 #[.pointer (some ⟨L.g, 0, none⟩), .int .i64 i] W fun e W' => e = .returned (.int .i64 (pendN S i : Int)) ∧ Below W.heap.size W W' := by
 obtain ⟨vs, pv, uv, m, h⟩ := h
 exact pending_calls h hpl i
theorem oldI {W : World} {B : Nat} {L : Lay} {F : Nat → Prop} {S : DevS} (h : DevIs W B L F S) (hlen : S.old.length = S.stable.length) (i : Int) :
  Calls Try.prog 25 #[.pointer (some ⟨L.g, 0, none⟩), .int .i64 i] W fun e W' => e = .returned (.int .i64 (oldN S i)) ∧ W = W' := by
 obtain ⟨vs, pv, uv, m, h⟩ := h
 exact old_calls h hlen i
set_option maxHeartbeats 4000000 in
set_option maxRecDepth 100000 in
theorem awake_calls (W : World) :
  Calls Try.prog 10 #[] W fun e W' => e = .returned (.bool true) ∧ Below W.heap.size W W' := by
 have e1 : ∀ k, Calls Try.prog 19 #[.string ⟨#[97, 98, 99, 100, 101, 102]⟩] k fun e W' => e = .returned (.string awS) ∧ Below k.heap.size k W' := fun k => full_calls k _
 have e2 : ∀ k, Calls Try.prog 19 #[.string ⟨#[97, 98, 99]⟩] k fun e W' => e = .returned (.string awT) ∧ Below k.heap.size k W' := fun k => full_calls k _
 have hsS : awS.size = 140 := fullS_size _
 have E1 := Aside0.mk e1
 have E2 := Aside0.mk e2
 have HSS := Aside0.mk hsS
 have hqS : (awS.toList == awS.toList) = true := bytes_yes rfl
 have hqT : (awT.toList == awT.toList) = true := bytes_yes rfl
 clear e1 e2 hsS
 go_enter Try.func10, Try.ntmps10
 go_wp2_with fail
 refine (new_calls W 2 (by decide) (by decide)).mono ?_
 rintro e W1 ⟨L, F1, rfl, hI1, hb1⟩
 have HI1 := Aside0.mk hI1
 have HB1 := Aside0.mk hb1
 clear hI1 hb1
 go_wp2_with fail
 refine (E1.out W1).mono ?_
 rintro e W2 ⟨rfl, hb2⟩
 have HI2 := Aside0.mk (HI1.out.below hb2)
 have HB2 := Aside0.mk (HB1.out.trans (hb2.mono HB1.out.size))
 clear hb2 HI1 HB1
 go_wp2_with fail
 obtain ⟨W3, hW3⟩ : ∃ W3, W3 = W2.alloc (.cells #[.int .i64 1, .int .i64 5] 35) := ⟨_, rfl⟩
 obtain ⟨wb, hwb⟩ : ∃ wb, wb = W2.heap.size := ⟨_, rfl⟩
 have hx3 : W3.heap[wb]? = some (.cells #[.int .i64 1, .int .i64 5] 35 (0, 0)) := by rw [hW3, hwb]; exact blk_new _ _
 have hn3 : ¬ F1 wb := fun z => by have := (HI2.out.range _ z).2; omega
 have HI3 := Aside0.mk (show DevIs W3 W.heap.size L F1 aw0 by rw [hW3]; exact HI2.out.below (below_alloc (Below.refl _ _) _))
 have HB3 := Aside0.mk (show Below W.heap.size W W3 by rw [hW3]; exact HB2.out.trans ((below_alloc (Below.refl _ _) _).mono HB2.out.size))
 have x3 : W3.cell? ⟨wb, 0, none⟩ = some (.int .i64 1) := by rw [blk_cell hx3]; rfl
 have x3' : W3.cell? ⟨wb, 1, none⟩ = some (.int .i64 5) := by rw [blk_cell hx3]; rfl
 rw [← hW3, ← hwb]
 have HX3 := Aside0.mk hx3
 have HN3 := Aside0.mk hn3
 clear hW3 hwb hx3 hn3 HI2 HB2
 refine (write_calls HI3.out (fine_new 2 (by decide) (by decide)) (by decide) (by decide) 1 5 0 awS).mono ?_
 rintro e W4 ⟨rfl, hpo⟩
 rw [aw_w1]
 obtain ⟨F4, hI4, hk4, hb4, hs4⟩ := hpo.keep
 obtain ⟨hx4, hn4⟩ := hk4 wb _ HX3.out HN3.out
 have HI4 := Aside0.mk (show DevIs W4 W.heap.size L F4 aw1 from hI4)
 have HB4 := Aside0.mk (HB3.out.trans hb4)
 have HX4 := Aside0.mk hx4
 have HN4 := Aside0.mk hn4
 clear hpo hI4 hk4 hb4 hs4 hx4 hn4 HI3 HB3 HX3 HN3 x3 x3'
 go_wp2_with fail
 refine (pendI HI4.out (Nat.le_trans fine_aw1.plen (by decide)) 1).mono ?_
 rintro e W5 ⟨rfl, hb5⟩
 rw [aw_p1]
 have HI5 := Aside0.mk (HI4.out.below hb5)
 have HX5 := Aside0.mk (blk_below HX4.out hb5)
 have HB5 := Aside0.mk (HB4.out.trans (hb5.mono HB4.out.size))
 clear hb5 HI4 HB4 HX4
 go_wp2_with fail
 refine (readI HI5.out (Nat.le_trans fine_aw1.plen (by decide)) 0).mono ?_
 rintro e W6 ⟨rfl, rfl⟩
 rw [aw_r1]
 go_wp2_with fail
 have hb7 := below_alloc (Below.refl W5.heap.size W5) (.cells #[.int .i64 3] 3)
 have HB7 := Aside0.mk (HB5.out.trans (hb7.mono HB5.out.size))
 have HI7 := Aside0.mk (HI5.out.below hb7)
 have HX7 := Aside0.mk (blk_below HX5.out hb7)
 have hn7 : ¬ F4 W5.heap.size := fun z => by have := (HI5.out.range _ z).2; omega
 refine (crash_calls HI7.out fine_aw1 (by decide) 1 (some ⟨W5.heap.size, 0, none⟩) 1 [3] (ints_F (blk_new _ _) (by decide) hn7) (by decide) (by decide)).mono ?_
 rintro e W8 ⟨rfl, hpo⟩
 obtain ⟨F8, hI8, hk8, hb8, hs8⟩ := hpo.keep
 obtain ⟨hx8, hn8⟩ := hk8 wb _ HX7.out HN4.out
 have HI8 := Aside0.mk (show DevIs W8 W.heap.size L F8 aw2 from hI8)
 have HB8 := Aside0.mk (HB7.out.trans hb8)
 have HX8 := Aside0.mk hx8
 have HN8 := Aside0.mk hn8
 clear hpo hI8 hk8 hb8 hs8 hx8 hn8 HI5 HB5 HX5 HN4 HI7 HB7 HX7 hb7 hn7
 go_wp2_with fail
 refine (readI HI8.out (Nat.le_trans fine_aw2.plen (by decide)) 0).mono ?_
 rintro e W9 ⟨rfl, rfl⟩
 rw [aw_r2]
 go_wp2_with fail
 refine (fence_calls HI8.out 1 5).mono ?_
 rintro e W10 ⟨rfl, hpo⟩
 obtain ⟨F10, hI10, hk10, hb10, hs10⟩ := hpo.keep
 obtain ⟨hx10, hn10⟩ := hk10 wb _ HX8.out HN8.out
 have HI10 := Aside0.mk (show DevIs W10 W.heap.size L F10 aw3 from hI10)
 have HB10 := Aside0.mk (HB8.out.trans hb10)
 have HX10 := Aside0.mk hx10
 have HN10 := Aside0.mk hn10
 clear hpo hI10 hk10 hb10 hs10 hx10 hn10 HI8 HB8 HX8 HN8
 go_wp2_with fail
 refine (E2.out W10).mono ?_
 rintro e W11 ⟨rfl, hb11⟩
 have HI11 := Aside0.mk (HI10.out.below hb11)
 have HX11 := Aside0.mk (blk_below HX10.out hb11)
 have HB11 := Aside0.mk (HB10.out.trans (hb11.mono HB10.out.size))
 clear hb11 HI10 HB10 HX10
 go_wp2_with fail
 refine (oldI HI11.out fine_aw3.len 0).mono ?_
 rintro e W12 ⟨rfl, rfl⟩
 rw [aw_o3]
 have x12 : W11.cell? ⟨wb, 0, none⟩ = some (.int .i64 1) := by rw [blk_cell HX11.out]; rfl
 have x12' : W11.cell? ⟨wb, 1, none⟩ = some (.int .i64 5) := by rw [blk_cell HX11.out]; rfl
 go_wp2_with fail
 refine (write_calls HI11.out fine_aw3 (by decide) (by decide) 1 5 0 awS).mono ?_
 rintro e W13 ⟨rfl, hpo⟩
 rw [aw_w4]
 obtain ⟨F13, hI13, hk13, hb13, hs13⟩ := hpo.keep
 have HI13 := Aside0.mk (show DevIs W13 W.heap.size L F13 aw4 from hI13)
 have HB13 := Aside0.mk (HB11.out.trans hb13)
 clear hpo hI13 hk13 hb13 hs13 HI11 HB11 HX11 x12 x12'
 go_wp2_with fail
 refine (write_calls HI13.out fine_aw4 (by decide) (by decide) 1 6 0 awS).mono ?_
 rintro e W14 ⟨rfl, hpo⟩
 rw [aw_w5]
 obtain ⟨F14, hI14, hk14, hb14, hs14⟩ := hpo.keep
 have HB14 := Aside0.mk (HB13.out.trans hb14)
 clear hpo hI14 hk14 hb14 hs14
 go_wp2_with fail
 go_ret
 exact ⟨rfl, HB14.out⟩
end Go.Proofs.Ytflajmgichdhhaa.PG
namespace Go.Proofs.Ytflajmgichdhhaa.PG
open Go.RowKit Go.Proofs.YtflajmgichdhhaaW.PrintWords Go.Proofs.YtflajmgichdhhaaW.PrintLast Go.Proofs.YtflajmgichdhhaaW.PrintMore
set_option linter.unusedVariables false
set_option linter.unusedSimpArgs false
def FencesOk (fl : List Int) (fs : Int → Option Int) : Prop := ∀ s : Nat, 1 ≤ s → s ≤ 4 → 0 ≤ fl.getD s 0 ∧ fl.getD s 0 ≤ 1099511627777 ∧ ∀ ep : Int, 0 ≤ ep → ep ≤ 1099511627776 → (ep < fl.getD s 0 ↔ ∃ f, fs (s : Int) = some f ∧ ep ≤ f)
def FuseOk (fu : Int) (sv : List Int) (S : DevS) : Prop := (S.fset = false → fu = -1) ∧ (S.fset = true → fu = S.left ∧ sv = S.surv)
structure RefAt (W : World) (ok : Nat → Prop) (v v0 v1 v2 v3 v6 : Value) (fl : List Int) (fu : Int) (sv : List Int) (S : DevS) : Prop where
  hv : v = .agg #[v0, v1, v2, v3, .bool S.failed, .int .i64 fu, v6]
  h0 : Kd.V Kd.string 9 W 0 ok v0 S.stable
  h1 : Kd.V (Kd.slice 9 Kd.string) 26 W 0 ok v1 S.old
  h2 : Kd.V k99 99 W 0 ok v2 S.pend
  h3 : Kd.V (Kd.int .i64) 3 W 0 ok v3 fl
  h6 : Kd.V (Kd.int .i64) 3 W 0 ok v6 sv
  fl5 : fl.length = 5
  fok : FencesOk fl S.fences
  uok : FuseOk fu sv S
def RefIs (W : World) (ok : Nat → Prop) (v : Value) (S : DevS) : Prop := ∃ v0 v1 v2 v3 v6 fl fu sv, RefAt W ok v v0 v1 v2 v3 v6 fl fu sv S
theorem RefIs.step {W W1 : World} {ok : Nat → Prop} {v : Value} {S : DevS} (h : RefIs W ok v S) (hm : ∀ k, ok k → k < W.heap.size → W1.heap[k]? = W.heap[k]?) : RefIs W1 ok v S := by
 obtain ⟨v0, v1, v2, v3, v6, fl, fu, sv, h⟩ := h
 exact ⟨v0, v1, v2, v3, v6, fl, fu, sv, { h with h0 := Kd.V_step h.h0 hm, h1 := Kd.V_step h.h1 hm, h2 := Kd.V_step h.h2 hm, h3 := Kd.V_step h.h3 hm, h6 := Kd.V_step h.h6 hm }⟩
theorem RefIs.below {W W1 : World} {ok : Nat → Prop} {v : Value} {S : DevS} (h : RefIs W ok v S) (hb : Below W.heap.size W W1) : RefIs W1 ok v S := h.step (fun k _ hk => hb.block k hk)
theorem RefIs.mono {W : World} {ok ok' : Nat → Prop} {v : Value} {S : DevS} (h : RefIs W ok v S) (hok : ∀ k, ok k → k < W.heap.size → ok' k) : RefIs W ok' v S := by
 obtain ⟨v0, v1, v2, v3, v6, fl, fu, sv, h⟩ := h
 have hm : ∀ {α : Type} {d : Kd α} {e : Nat} {u : Value} {xs : List α}, Kd.V d e W 0 ok u xs → Kd.V d e W 0 ok' u xs := fun hu => Kd.V_mono (Kd.V_bound hu) (fun k hk => hok k hk.1 hk.2)
 exact ⟨v0, v1, v2, v3, v6, fl, fu, sv, { h with h0 := hm h.h0, h1 := hm h.h1, h2 := hm h.h2, h3 := hm h.h3, h6 := hm h.h6 }⟩
theorem RefIs.kept {W W1 : World} {F F1 : Nat → Prop} {v : Value} {S : DevS} (h : RefIs W (fun k => ¬ F k) v S) (hk : Kept W W1 F) (hF : ∀ k, F1 k → F k ∨ W.heap.size ≤ k) : RefIs W1 (fun k => ¬ F1 k) v S := by
 obtain ⟨v0, v1, v2, v3, v6, fl, fu, sv, h⟩ := h
 have hm : ∀ {α : Type} {d : Kd α} {e : Nat} {u : Value} {xs : List α}, Kd.V d e W 0 (fun k => ¬ F k) u xs → Kd.V d e W1 0 (fun k => ¬ F1 k) u xs := fun hu => Kd.V_mono (Kd.V_kept (Kd.V_bound hu) hk (fun k z => z.1)) (fun k hk z => (hF k z).elim hk.1 (fun y => by have := hk.2; omega))
 exact ⟨v0, v1, v2, v3, v6, fl, fu, sv, { h with h0 := hm h.h0, h1 := hm h.h1, h2 := hm h.h2, h3 := hm h.h3, h6 := hm h.h6 }⟩
def kNil : Kd Unit := Kd.scalar (fun _ => .slice none 0 0) (fun _ => rfl)
theorem nil_C {W : World} {A : Option Addr} {n : Nat} (h : kNil.C W A n (List.replicate n ())) : (Kd.slice 9 Kd.string).C W A n (List.replicate n []) := by
 obtain ⟨h1, h2, h3⟩ := h
 refine ⟨by simp, h2, fun hn => ?_⟩
 obtain ⟨ad, e, hc⟩ := h3 hn
 refine ⟨ad, e, fun j p hj => ?_⟩
 have hjn : j < n := by have := (List.getElem?_eq_some_iff.1 hj).1; simpa using this
 have hp : p = [] := by
  have := List.getElem?_replicate (a := ([] : List ByteArray)) (n := n) (i := j)
  rw [hj, if_pos hjn] at this
  exact Option.some.inj this
 obtain ⟨c, c1, c2, c3⟩ := hc j () (by rw [List.getElem?_replicate, if_pos hjn])
 refine ⟨c, c1, ?_, c3⟩
 rw [hp]
 exact ⟨none, 0, c2, Nat.le_refl _, Kd.C_nil _ _⟩
theorem padded_calls (W : World) : Calls Try.prog 47 #[.string ⟨#[]⟩, .int .i64 140] W fun e W' => e = .returned (.string zeros140) ∧ Below W.heap.size W W' := by
 obtain ⟨k, hk⟩ := padded_l0 140 ⟨#[]⟩ (by decide)
 have e : padS ⟨#[]⟩ = zeros140 := by kernel_rfl
 rw [e] at hk
 refine (dasdref01_Padded.calls k ⟨#[]⟩ 140 _ W hk).mono ?_
 rintro e W' ⟨he, hd⟩
 exact ⟨he, hd.below⟩
def set7 (w : World) (b : Nat) (a0 a1 a2 a3 a4 a5 a6 : Value) : World := ((((((w.setCell ⟨b, 0, none⟩ a0).setCell ⟨b, 1, none⟩ a1).setCell ⟨b, 2, none⟩ a2).setCell ⟨b, 3, none⟩ a3).setCell ⟨b, 4, none⟩ a4).setCell ⟨b, 5, none⟩ a5).setCell ⟨b, 6, none⟩ a6
theorem set7_blk {w : World} {b : Nat} {x0 x1 x2 x3 x4 x5 x6 : Value} {t : TypeId} (h : w.heap[b]? = some (.cells #[x0, x1, x2, x3, x4, x5, x6] t (0, 0))) (a0 a1 a2 a3 a4 a5 a6 : Value) : (set7 w b a0 a1 a2 a3 a4 a5 a6).heap[b]? = some (.cells #[a0, a1, a2, a3, a4, a5, a6] t (0, 0)) :=
 blk_put (blk_put (blk_put (blk_put (blk_put (blk_put (blk_put h 0 a0 rfl) 1 a1 rfl) 2 a2 rfl) 3 a3 rfl) 4 a4 rfl) 5 a5 rfl) 6 a6 (by rfl)
theorem set7_far (w : World) (b : Nat) (a0 a1 a2 a3 a4 a5 a6 : Value) (k : Nat) (hk : k ≠ b) : (set7 w b a0 a1 a2 a3 a4 a5 a6).heap[k]? = w.heap[k]? :=
 (Below.heap_setCell _ _ _ _ hk).trans ((Below.heap_setCell _ _ _ _ hk).trans ((Below.heap_setCell _ _ _ _ hk).trans ((Below.heap_setCell _ _ _ _ hk).trans ((Below.heap_setCell _ _ _ _ hk).trans ((Below.heap_setCell _ _ _ _ hk).trans (Below.heap_setCell _ _ _ _ hk))))))
theorem set7_below {W w : World} {b : Nat} (h : Below W.heap.size W w) (hb : W.heap.size ≤ b) (a0 a1 a2 a3 a4 a5 a6 : Value) : Below W.heap.size W (set7 w b a0 a1 a2 a3 a4 a5 a6) :=
 ((((((h.setCell (p := ⟨b, 0, none⟩) hb a0).setCell (p := ⟨b, 1, none⟩) hb a1).setCell (p := ⟨b, 2, none⟩) hb a2).setCell (p := ⟨b, 3, none⟩) hb a3).setCell (p := ⟨b, 4, none⟩) hb a4).setCell (p := ⟨b, 5, none⟩) hb a5).setCell (p := ⟨b, 6, none⟩) hb a6
theorem set7_size (w : World) (b : Nat) (a0 a1 a2 a3 a4 a5 a6 : Value) : (set7 w b a0 a1 a2 a3 a4 a5 a6).heap.size = w.heap.size := by simp [set7, World.setCell]
theorem three (W : World) (a b c : Obj) : (((W.alloc a).alloc b).alloc c).heap[W.heap.size]? = some a ∧ (((W.alloc a).alloc b).alloc c).heap[W.heap.size + 1]? = some b ∧
  (((W.alloc a).alloc b).alloc c).heap[W.heap.size + 1 + 1]? = some c ∧ Below W.heap.size W (((W.alloc a).alloc b).alloc c) := by
 have e1 : (W.alloc a).heap.size = W.heap.size + 1 := by simp
 have e2 : ((W.alloc a).alloc b).heap.size = W.heap.size + 1 + 1 := by simp
 have n1 := blk_new (W.alloc a) b
 have n2 := blk_new ((W.alloc a).alloc b) c
 rw [e1] at n1
 rw [e2] at n2
 exact ⟨blk_alloc (blk_alloc (blk_new _ _) _) _, blk_alloc n1 _, n2, below_alloc (below_alloc (below_alloc (Below.refl _ _) _) _) _⟩
theorem replicate_snoc {α : Type} (n : Nat) (a : α) : List.replicate n a ++ [a] = List.replicate (n + 1) a := by
 rw [← List.replicate_succ']
def RNewPost (n : Nat) (W : World) (e : Ending) (W' : World) : Prop := ∃ v, e = .returned (.tuple #[v, .int .i64 0]) ∧ RefIs W' (fun k => W.heap.size ≤ k) v (newS n) ∧ Below W.heap.size W W'
set_option maxHeartbeats 2000000 in
set_option maxRecDepth 100000 in
theorem rnew_calls (W : World) (n : Nat) (h1 : 1 ≤ n) (h2 : n ≤ 1155) :
  Calls Try.prog 18 #[.int .i64 n] W fun e W' => RNewPost n W e W' := by
 have hd1 : decide ((n : Int) < 1) = false := decide_eq_false (by omega)
 have hd2 : decide (1155 < (n : Int)) = false := decide_eq_false (by omega)
 have hn1 : (n : Int) ≤ 1155 := by omega
 go_enter Try.func18, Try.ntmps18
 go_wp2_with fail
 obtain ⟨f0, f1, f2, fb'⟩ := three W (.cells #[.slice none 0 0, .slice none 0 0, .slice none 0 0, .slice none 0 0, .bool false, .int .i64 0, .slice none 0 0] 31) (.cells #[.int .i64 0, .int .i64 0, .int .i64 0, .int .i64 0, .int .i64 0] 3) (.cells #[.slice none 0 0, .slice none 0 0, .slice none 0 0, .slice (some ⟨W.heap.size + 1, 0, none⟩) 5 5, .bool false, .int .i64 (-1), .slice none 0 0] 31)
 obtain ⟨W3, hW3⟩ : ∃ W3, W3 = ((W.alloc (.cells #[.slice none 0 0, .slice none 0 0, .slice none 0 0, .slice none 0 0, .bool false, .int .i64 0, .slice none 0 0] 31)).alloc (.cells #[.int .i64 0, .int .i64 0, .int .i64 0, .int .i64 0, .int .i64 0] 3)).alloc (.cells #[.slice none 0 0, .slice none 0 0, .slice none 0 0, .slice (some ⟨W.heap.size + 1, 0, none⟩) 5 5, .bool false, .int .i64 (-1), .slice none 0 0] 31) := ⟨_, rfl⟩
 rw [← hW3] at f0 f1 f2 fb' ⊢
 obtain ⟨rb, hrb⟩ : ∃ rb, rb = W.heap.size := ⟨_, rfl⟩
 obtain ⟨fb, hfb⟩ : ∃ fb, fb = W.heap.size + 1 := ⟨_, rfl⟩
 obtain ⟨gb, hgb⟩ : ∃ gb, gb = W.heap.size + 1 + 1 := ⟨_, rfl⟩
 have hlr : W.heap.size ≤ rb := by omega
 have hlf : W.heap.size ≤ fb := by omega
 have hlg : W.heap.size ≤ gb := by omega
 have ne1 : rb ≠ gb := by omega
 have ne2 : gb ≠ rb := by omega
 rw [← hgb] at f2 ⊢
 rw [← hfb] at f1 f2 ⊢
 rw [← hrb] at f0
 rw [show (Value.pointer (some ⟨W.heap.size, 0, none⟩)) = .pointer (some ⟨rb, 0, none⟩) by rw [hrb]]
 have F0 := Aside0.mk f0
 have F1 := Aside0.mk (show W3.heap[fb]? = some (.cells (ints [0, 0, 0, 0, 0]) 3 (0, 0)) from f1)
 have F2 := Aside0.mk f2
 have FB := Aside0.mk fb'
 clear f0 f1 f2 fb' hW3 hrb hfb hgb
 go_loopg [5] n (fun gg s5 wr => ∃ (j : Nat) (v0 v1 : Value), s5 = .int .i64 j ∧ j ≤ n ∧ n - j ≤ gg ∧ Aside0 (wr.heap[gb]? = some (.cells #[v0, v1, .slice none 0 0, .slice (some ⟨fb, 0, none⟩) 5 5, .bool false, .int .i64 (-1), .slice none 0 0] 31 (0, 0))) ∧ Aside0 (wr.heap[rb]? = some (.cells #[.slice none 0 0, .slice none 0 0, .slice none 0 0, .slice none 0 0, .bool false, .int .i64 0, .slice none 0 0] 31 (0, 0))) ∧ Aside0 (wr.heap[fb]? = some (.cells (ints [0, 0, 0, 0, 0]) 3 (0, 0))) ∧ Aside0 (Kd.R Kd.string 9 wr W.heap.size (fun k => W.heap.size ≤ k) v0 (List.replicate j zeros140)) ∧ Aside0 (Kd.R kNil 26 wr W.heap.size (fun k => W.heap.size ≤ k) v1 (List.replicate j ())) ∧ Aside0 (Below W.heap.size W wr))
 case atStart => exact ⟨0, .slice none 0 0, .slice none 0 0, by go_num, Nat.zero_le _, by omega, F2, F0, F1, ⟨Kd.R_nil _ _ _ _ _⟩, ⟨Kd.R_nil _ _ _ _ _⟩, FB⟩
 case round =>
  clear F0 F1 F2 FB
  obtain ⟨j, v0, v1, rfl, hj, hgg, HG, HRB, HF, H0, H1, HB⟩ := hrel
  obtain ⟨A0, c0, hv0, _, _⟩ := Kd.R_reads H0.out
  obtain ⟨A1, c1, hv1, _, _⟩ := Kd.R_reads H1.out
  rw [List.length_replicate] at hv0 hv1
  subst hv0
  subst hv1
  have hbr : W.heap.size ≤ wr.heap.size := HB.out.size
  have g0 : wr.cell? ⟨gb, 0, none⟩ = some (.slice A0 j c0) := by rw [blk_cell HG.out]; rfl
  have lgb : gb < wr.heap.size := blk_lt HG.out
  by_cases hlt : j < n
  ·have hltz : (j : Int) < (n : Int) := by omega
   go_wp2_with fail
   refine start_ (n := 7) (S := fun w' => w'.cell? ⟨gb, 0, none⟩ = some (.slice A0 j c0)) (ds := [4, 6]) #[false, false, false, false, false, false, false] (by kernel_rfl) rfl rfl (g0) (fun hHeld => ?_)
   refine pure_ (i := 0) (N := some 20) (v := ?_) (a' := ?_) #[true, false, false, false, false, false, false] rfl rfl (by kernel_rfl) (fun _ _ _ h => h) (Or.inl ⟨by rfl, ?_⟩) ?_ ?_
   rotate_left
   ·intro w'
    go_simp
    with_reducible rfl
   rotate_left
   ·simp only [Act.put, List.setIfInBounds_toArray, List.set_cons_zero, List.set_cons_succ, i64_w, i32_w]
    rfl
   refine take_ (i := 1) (N := some 21) (v := ?_) (a' := ?_) #[true, true, false, false, false, false, false] rfl rfl (by kernel_rfl) (fun _ _ _ h => h) (Or.inl ⟨by rfl, ?_⟩) hHeld ?_ ?_
   rotate_left
   ·intro w' s0
    go_simp
    with_reducible rfl
   rotate_left
   ·simp only [Act.put, List.setIfInBounds_toArray, List.set_cons_zero, List.set_cons_succ, i64_w, i32_w]
    rfl
   refine one_ (i := 2) (N := some 22) #[true, true, true, false, false, false, false] rfl rfl (by kernel_rfl) (by decide) (fun K hK => ?_)
   refine goes_ Try.func47 (by kernel_rfl) rfl #[.string ⟨#[]⟩, .int .i64 140] (by rfl) rfl rfl (by simp only [List.map_toArray, List.map_cons, List.map_nil]; rfl) ?_
   with_reducible refine (padded_calls _).mono ?_
   rintro e w3 ⟨rfl, hb3⟩
   refine ⟨_, rfl, ?_⟩
   have HB3 := Aside0.mk (show Below wr.heap.size wr w3 from ((Below.refl wr.heap.size wr).drew).trans hb3)
   clear hb3
   refine hK.out _ _ (((HB3.out.cell (p := ⟨gb, 0, none⟩) lgb).trans g0)) (fun hHeld => ?_)
   clear hK K
   refine norm_ (a' := ?_) ?_ ?_
   rotate_left
   ·show Act.put _ (some 22) _ = _
    simp only [Act.put, List.setIfInBounds_toArray, List.set_cons_zero, List.set_cons_succ, i64_w, i32_w]
    rfl
   refine one_ (i := 3) (N := some 23) #[true, true, true, true, false, false, false] rfl rfl (by kernel_rfl) (by decide) (fun K hK => ?_)
   refine value_ (w1 := ?_) (v := ?_) (by rfl) rfl ?_ ?_
   rotate_left 2
   ·go_simp
    constructor
    ·rfl
    ·rfl
   refine hK.out _ _ (((blk_cell (blk_alloc (blk_below HG.out HB3.out) _) 0).trans rfl)) (fun hHeld => ?_)
   clear hK K
   refine norm_ (a' := ?_) ?_ ?_
   rotate_left
   ·show Act.put _ (some 23) _ = _
    simp only [Act.put, List.setIfInBounds_toArray, List.set_cons_zero, List.set_cons_succ, i64_w, i32_w]
    rfl
   refine last_ (i := 4) (N := some 24) #[true, true, true, true, true, false, false] rfl rfl (by kernel_rfl) (by decide) (fun K hK => ?_)
   have hr3 := Kd.R_below H0.out HB3.out
   refine Kd.R_append_step Kd.string (w0 := W) (W := w3) W.heap.size (by rfl) (.tmp 21) (.tmp 23) 26 9 (.string ⟨#[]⟩) 16 rfl Try.underlying26 info9 rfl (by decide) (by omega) (.slice A0 j c0) (List.replicate j zeros140) zeros140 [.string zeros140] (fun k => W.heap.size ≤ k) (fun _ => False) rfl rfl rfl (fun _ h => h.elim) (fun k hk => Nat.le_trans hbr (Nat.le_trans HB3.out.size hk)) hr3 (HB.out.trans (HB3.out.mono hbr)) (Nat.le_trans hbr HB3.out.size) (by rw [List.length_replicate]; omega) ?_
   intro v4 w4 hR4 hb4 hg4 hat4
   rw [replicate_snoc] at hR4
   obtain ⟨A4, c4, hv4, _, _⟩ := Kd.R_reads hR4
   rw [List.length_replicate] at hv4
   subst hv4
   have hG4 := blk_grown (blk_below HG.out HB3.out) hg4 (fun e => Kd.R_ne hr3 (blk_below HG.out HB3.out) (by decide) e)
   have hRB4 := blk_grown (blk_below HRB.out HB3.out) hg4 (fun e => Kd.R_ne hr3 (blk_below HRB.out HB3.out) (by decide) e)
   have hF4 := blk_grown (blk_below HF.out HB3.out) hg4 (fun e => Kd.R_ne hr3 (blk_below HF.out HB3.out) (by decide) e)
   have h14 := Kd.R_over (Kd.R_below H1.out HB3.out) hr3 (by decide) hg4
   have g4 : w4.cell? ⟨gb, 0, none⟩ = some (.slice A0 j c0) := by rw [blk_cell hG4]; rfl
   have fg4 : w4.frozen? ⟨gb, 0, none⟩ = false := blk_frozen hG4 0
   have HR4 := Aside0.mk hR4
   have HB4 := Aside0.mk hb4
   have HG4 := Aside0.mk hG4
   have HRB4 := Aside0.mk hRB4
   have HF4 := Aside0.mk hF4
   have H14 := Aside0.mk h14
   clear hr3 hR4 hb4 hg4 hat4 hG4 hRB4 hF4 h14
   refine hK.out _ _ ?_
   clear hK K
   refine norm_ (a' := ?_) ?_ ?_
   rotate_left
   ·show Act.put _ (some 24) _ = _
    simp only [Act.put, List.setIfInBounds_toArray, List.set_cons_zero, List.set_cons_succ, i64_w, i32_w]
    rfl
   refine pure_ (i := 5) (N := some 25) (v := ?_) (a' := ?_) #[true, true, true, true, true, true, false] rfl rfl (by kernel_rfl) (fun _ _ _ h => h) (Or.inl ⟨by rfl, ?_⟩) ?_ ?_
   rotate_left
   ·intro w'
    go_simp
    with_reducible rfl
   rotate_left
   ·simp only [Act.put, List.setIfInBounds_toArray, List.set_cons_zero, List.set_cons_succ, i64_w, i32_w]
    rfl
   refine last_ (i := 6) (N := none) #[true, true, true, true, true, true, true] rfl rfl (by kernel_rfl) (by decide) (fun K hK => ?_)
   refine skip_ (w1 := ?_) (by rfl) rfl ?_ ?_
   rotate_left
   ·go_simp
    rfl
   refine hK.out _ _ ?_
   clear hK K
   refine done_ (by kernel_rfl) ?_
   obtain ⟨w5, hw5⟩ : ∃ w5, w5 = w4.setCell ⟨gb, 0, none⟩ (.slice A4 (j + 1) c4) := ⟨_, rfl⟩
   have hG5 : w5.heap[gb]? = some (.cells #[.slice A4 (j + 1) c4, .slice A1 j c1, .slice none 0 0, .slice (some ⟨fb, 0, none⟩) 5 5, .bool false, .int .i64 (-1), .slice none 0 0] 31 (0, 0)) := by rw [hw5]; exact blk_put HG4.out 0 _ (by rfl)
   have hfar : ∀ k, k ≠ gb → w5.heap[k]? = w4.heap[k]? := fun k hk => by rw [hw5]; exact Below.heap_setCell _ _ _ _ hk
   have HRB5 := Aside0.mk ((hfar rb ne1).trans HRB4.out)
   have HF5 := Aside0.mk ((hfar fb (blk_ne HF4.out HG4.out (by decide))).trans HF4.out)
   have HR5 := Aside0.mk (Kd.R_mono (Kd.R_step (Kd.R_types HR4.out HG4.out (by decide)) (fun k hk _ => hfar k hk.2)) (fun k hk => hk.1))
   have H15 := Aside0.mk (Kd.R_mono (Kd.R_step (Kd.R_types H14.out HG4.out (by decide)) (fun k hk _ => hfar k hk.2)) (fun k hk => hk.1))
   have HB5 := Aside0.mk (show Below W.heap.size W w5 by rw [hw5]; exact HB4.out.setCell hlg _)
   have g51 : w5.cell? ⟨gb, 1, none⟩ = some (.slice A1 j c1) := by rw [blk_cell hG5]; rfl
   have hbr5 : W.heap.size ≤ w5.heap.size := HB5.out.size
   have HG5 := Aside0.mk hG5
   rw [← hw5]
   clear hw5 hG5 hfar HG4 HRB4 HF4 HR4 H14 HB4 g4 fg4
   go_wp2_with (at_builtin; with_reducible refine stopHere ?_)
   refine ⟨?_⟩
   refine Kd.R_append kNil (w0 := W) W.heap.size rfl (.tmp 27) (.tmp 28) 27 26 (.slice none 0 0) 24 rfl Try.underlying27 info26 rfl (by decide) (by omega) (.slice A1 j c1) (List.replicate j ()) () [.slice none 0 0] (fun k => W.heap.size ≤ k) (fun _ => False) rfl rfl rfl (fun _ h => h.elim) (fun k hk => Nat.le_trans hbr5 hk) H15.out HB5.out hbr5 (by rw [List.length_replicate]; omega) ?_
   intro v6 w6 hR6 hb6 hg6 hat6
   rw [replicate_snoc] at hR6
   obtain ⟨A6, c6, hv6, _, _⟩ := Kd.R_reads hR6
   rw [List.length_replicate] at hv6
   subst hv6
   have hG6 := blk_grown HG5.out hg6 (fun e => Kd.R_ne H15.out HG5.out (by decide) e)
   have HRB6 := Aside0.mk (blk_grown HRB5.out hg6 (fun e => Kd.R_ne H15.out HRB5.out (by decide) e))
   have HF6 := Aside0.mk (blk_grown HF5.out hg6 (fun e => Kd.R_ne H15.out HF5.out (by decide) e))
   have HR6 := Aside0.mk (Kd.R_over HR5.out H15.out (by decide) hg6)
   have H16 := Aside0.mk hR6
   have HB6 := Aside0.mk hb6
   have g61 : w6.cell? ⟨gb, 1, none⟩ = some (.slice A1 j c1) := by rw [blk_cell hG6]; rfl
   have fg6 : w6.frozen? ⟨gb, 1, none⟩ = false := blk_frozen hG6 1
   have HG6 := Aside0.mk hG6
   clear hR6 hb6 hg6 hat6 hG6 HG5 HRB5 HF5 HR5 H15 HB5
   go_wp2_with fail
   go_roundg (n - (j + 1))
   case measure => omega
   case rel =>
    have hfar : ∀ k, k ≠ gb → (w6.setCell ⟨gb, 1, none⟩ (.slice A6 (j + 1) c6)).heap[k]? = w6.heap[k]? := fun k hk => Below.heap_setCell _ _ _ _ hk
    exact ⟨j + 1, .slice A4 (j + 1) c4, .slice A6 (j + 1) c6, by go_num, by omega, Nat.le_refl _, ⟨blk_put HG6.out 1 _ (by rfl)⟩, ⟨(hfar rb ne1).trans HRB6.out⟩, ⟨(hfar fb (blk_ne HF6.out HG6.out (by decide))).trans HF6.out⟩,
     ⟨Kd.R_mono (Kd.R_step (Kd.R_types HR6.out HG6.out (by decide)) (fun k hk _ => hfar k hk.2)) (fun k hk => hk.1)⟩, ⟨Kd.R_mono (Kd.R_step (Kd.R_types H16.out HG6.out (by decide)) (fun k hk _ => hfar k hk.2)) (fun k hk => hk.1)⟩, ⟨HB6.out.setCell hlg _⟩⟩
  ·obtain rfl : j = n := by omega
   have hG := HG.out
   have k1 : wr.cell? ⟨gb, 1, none⟩ = some (.slice A1 j c1) := by rw [blk_cell hG]; rfl
   have k2 : wr.cell? ⟨gb, 2, none⟩ = some (.slice none 0 0) := by rw [blk_cell hG]; rfl
   have k3 : wr.cell? ⟨gb, 3, none⟩ = some (.slice (some ⟨fb, 0, none⟩) 5 5) := by rw [blk_cell hG]; rfl
   have k4 : wr.cell? ⟨gb, 4, none⟩ = some (.bool false) := by rw [blk_cell hG]; rfl
   have k5 : wr.cell? ⟨gb, 5, none⟩ = some (.int .i64 (-1)) := by rw [blk_cell hG]; rfl
   have k6 : wr.cell? ⟨gb, 6, none⟩ = some (.slice none 0 0) := by rw [blk_cell hG]; rfl
   have hR := HRB.out
   obtain ⟨r0, r1, r2, r3, r4, r5, r6⟩ := cells7 hR
   have fr0 := blk_frozen hR 0
   have fr1 := blk_frozen hR 1
   have fr2 := blk_frozen hR 2
   have fr3 := blk_frozen hR 3
   have fr4 := blk_frozen hR 4
   have fr5 := blk_frozen hR 5
   have fr6 := blk_frozen hR 6
   clear hG hR
   go_wp2_with fail
   have hbk := set7_blk HRB.out (.slice A0 j c0) (.slice A1 j c1) (.slice none 0 0) (.slice (some ⟨fb, 0, none⟩) 5 5) (.bool false) (.int .i64 (-1)) (.slice none 0 0)
   refine bodyPost_ret (results_ct rfl _ _ rb 31 #[.slice A0 j c0, .slice A1 j c1, .slice none 0 0, .slice (some ⟨fb, 0, none⟩) 5 5, .bool false, .int .i64 (-1), .slice none 0 0] (0, 0) _ rfl hbk Try.underlying31 rfl (by kernel_rfl)) rfl ?_
   have hfar := set7_far wr rb (.slice A0 j c0) (.slice A1 j c1) (.slice none 0 0) (.slice (some ⟨fb, 0, none⟩) 5 5) (.bool false) (.int .i64 (-1)) (.slice none 0 0)
   refine ⟨_, rfl, ⟨_, _, _, _, _, [0, 0, 0, 0, 0], -1, [], { hv := rfl, h0 := ?_, h1 := ?_, h2 := Kd.V_nil _ _ _ _ _, h3 := ?_, h6 := Kd.V_nil _ _ _ _ _, fl5 := rfl, fok := ?_, uok := ⟨fun _ => rfl, fun z => by cases z⟩ }⟩, set7_below HB.out hlr _ _ _ _ _ _ _⟩
   ·have h := Kd.R_V (base' := 0) (Kd.R_mono (Kd.R_step (Kd.R_types H0.out HRB.out (by decide)) (fun k hk _ => hfar k hk.2)) (fun k hk => hk.1))
    exact h
   ·obtain ⟨A, c, e, hl, hf⟩ := Kd.R_V (base' := 0) (Kd.R_mono (Kd.R_step (Kd.R_types H1.out HRB.out (by decide)) (fun k hk _ => hfar k hk.2)) (fun k hk => hk.1))
    rw [List.length_replicate] at e hl hf
    refine ⟨A, c, ?_, ?_, ?_⟩
    ·rw [e]; show _ = Value.slice A (List.replicate j ([] : List ByteArray)).length c; rw [List.length_replicate]
    ·show (List.replicate j ([] : List ByteArray)).length ≤ c; rw [List.length_replicate]; exact hl
    ·show Kd.F (Kd.slice 9 Kd.string) _ _ A (List.replicate j ([] : List ByteArray)).length (List.replicate j [])
     rw [List.length_replicate]
     exact Kd.F_imp hf (fun W' h => nil_C h)
   ·exact ⟨some ⟨fb, 0, none⟩, 5, rfl, Nat.le_refl _, ints_F ((hfar fb (blk_ne HF.out HRB.out (by decide))).trans HF.out) (by decide) hlf⟩
   ·intro s hs1 hs2
    have e : ([0, 0, 0, 0, 0] : List Int).getD s 0 = 0 := by
     match s with
     | 1 => rfl
     | 2 => rfl
     | 3 => rfl
     | 4 => rfl
     | 0 => rfl
     | s + 5 => omega
    rw [e]
    refine ⟨Int.le_refl _, by decide, fun ep h0 h1 => ⟨fun z => by omega, fun ⟨f, z, _⟩ => by cases z⟩⟩
end Go.Proofs.Ytflajmgichdhhaa.PG
namespace Go.Proofs.Ytflajmgichdhhaa.PG
open Go.RowKit Go.Proofs.YtflajmgichdhhaaW.PrintWords Go.Proofs.YtflajmgichdhhaaW.PrintLast Go.Proofs.YtflajmgichdhhaaW.PrintMore
set_option linter.unusedVariables false
set_option linter.unusedSimpArgs false
section
variable {W : World} {A0 A1 A2 A3 A6 : Option Addr} {n0 c0 n1 c1 n2 c2 n3 c3 n6 c6 : Nat} {fa : Bool} {fu : Int}
set_option maxRecDepth 100000 in
theorem there_ref (W : World) (i : Int) :
  Calls Try.prog 54 #[.agg #[.slice A0 n0 c0, .slice A1 n1 c1, .slice A2 n2 c2, .slice A3 n3 c3, .bool fa, .int .i64 fu, .slice A6 n6 c6], .int .i64 i] W fun e W' => e = .returned (.bool (decide (0 ≤ i ∧ i < (n0 : Int)))) ∧ Below W.heap.size W W' := by
 by_cases h0 : 0 ≤ i
 ·have hd0 : decide (0 ≤ i) = true := decide_eq_true h0
  have hres : decide (0 ≤ i ∧ i < (n0 : Int)) = decide (i < (n0 : Int)) := by simp [h0]
  rw [hres]
  clear hres h0
  go_enter Try.func54, Try.ntmps54
  go_wp2_with fail
  go_ret
  exact ⟨rfl, below_alloc (Below.refl _ _) _⟩
 ·have hd0 : decide (0 ≤ i) = false := decide_eq_false h0
  have hres : decide (0 ≤ i ∧ i < (n0 : Int)) = false := by simp [h0]
  rw [hres]
  clear hres h0
  go_enter Try.func54, Try.ntmps54
  go_wp2_with fail
  go_ret
  exact ⟨rfl, below_alloc (Below.refl _ _) _⟩
theorem row_at {w : World} {A : Option Addr} {n : Nat} {xs : List (List ByteArray)} (h : Kd.C (Kd.slice 9 Kd.string) w A n xs) (i : Nat) (hi : i < n) :
  ∃ ad Ai ci, A = some ad ∧ w.cell? (ad.add i) = some (.slice Ai (xs.getD i []).length ci) ∧ (xs.getD i []).length ≤ ci ∧ Kd.C Kd.string w Ai (xs.getD i []).length (xs.getD i []) := by
 obtain ⟨h1, h2, h3⟩ := h
 obtain ⟨ad, e, hc⟩ := h3 (by omega)
 obtain ⟨c, c1, c2, c3⟩ := hc i (xs.getD i []) (by rw [List.getD_eq_getElem?_getD, List.getElem?_eq_getElem (by omega)]; rfl)
 obtain ⟨Ai, ci, rfl, k1, k2⟩ := c2
 have := c3 0 _ rfl
 exact ⟨ad, Ai, ci, e, by simpa [show (Kd.slice 9 Kd.string).sz = 1 from rfl] using this, k1, k2⟩
set_option maxRecDepth 100000 in
theorem earlier_ref (W : World) (ol : List (List ByteArray)) (hC : Kd.C (Kd.slice 9 Kd.string) W A1 ol.length ol) (hl : ol.length = n0) (i : Int) :
  Calls Try.prog 42 #[.agg #[.slice A0 n0 c0, .slice A1 ol.length c1, .slice A2 n2 c2, .slice A3 n3 c3, .bool fa, .int .i64 fu, .slice A6 n6 c6], .int .i64 i] W fun e W' => e = .returned (.int .i64 (if 0 ≤ i ∧ i < (n0 : Int) then ((ol.getD i.toNat []).length : Int) else 0)) ∧ Below W.heap.size W W' := by
 have HT := Aside0.mk (fun W => there_ref (A0 := A0) (A1 := A1) (A2 := A2) (A3 := A3) (A6 := A6) (n0 := n0) (c0 := c0) (n1 := ol.length) (c1 := c1) (n2 := n2) (c2 := c2) (n3 := n3) (c3 := c3) (n6 := n6) (c6 := c6) (fa := fa) (fu := fu) W i)
 by_cases h : 0 ≤ i ∧ i < (n0 : Int)
 ·rw [if_pos h]
  rw [decide_eq_true h] at HT
  obtain ⟨n, rfl⟩ := Int.eq_ofNat_of_zero_le h.1
  have hn : n < ol.length := by omega
  have hnz : ((n : Nat) : Int) < (ol.length : Int) := by omega
  have HC := Aside0.mk hC
  have HN := Aside0.mk hn
  clear h hl hC
  rw [Int.toNat_natCast]
  obtain ⟨m, hm⟩ : ∃ m, m = (ol.getD n []).length := ⟨_, rfl⟩
  rw [← hm]
  have HM := Aside0.mk hm
  clear hm
  go_enter Try.func42, Try.ntmps42
  go_wp2_with fail
  obtain ⟨bx, hbx⟩ : ∃ bx, bx = W.heap.size := ⟨_, rfl⟩
  obtain ⟨w1, hw⟩ : ∃ w1, w1 = W.alloc (.cells #[.slice A0 n0 c0, .slice A1 ol.length c1, .slice A2 n2 c2, .slice A3 n3 c3, .bool fa, .int .i64 fu, .slice A6 n6 c6] 31) := ⟨_, rfl⟩
  have hx : w1.heap[bx]? = some (.cells #[.slice A0 n0 c0, .slice A1 ol.length c1, .slice A2 n2 c2, .slice A3 n3 c3, .bool fa, .int .i64 fu, .slice A6 n6 c6] 31 (0, 0)) := by rw [hw, hbx]; exact blk_new _ _
  have hb : Below W.heap.size W w1 := by rw [hw]; exact below_alloc (Below.refl _ _) _
  rw [← hw, ← hbx]
  obtain ⟨k0, k1, k2, k3, k4, k5, k6⟩ := cells7 hx
  have HX := Aside0.mk hx
  have HB := Aside0.mk hb
  clear hw hx hb hbx
  refine (HT.out w1).mono ?_
  rintro e w2 ⟨rfl, hb⟩
  clear k0 k1 k2 k3 k4 k5 k6
  have hx := blk_below HX.out hb
  obtain ⟨k0, k1, k2, k3, k4, k5, k6⟩ := cells7 hx
  have hb2 := HB.out.trans (hb.mono HB.out.size)
  clear hb HX HB
  have HX := Aside0.mk hx
  have HB := Aside0.mk hb2
  clear hx hb2
  obtain ⟨ad, Ai, ci, e, q0, q1, q2⟩ := row_at (Kd.C_below HC.out HB.out) n HN.out
  subst e
  rw [← HM.out] at q0
  clear q1 q2 hn
  go_wp2_with fail
  go_ret
  exact ⟨rfl, HB.out⟩
 ·rw [if_neg h]
  rw [decide_eq_false h] at HT
  clear h hl hC
  go_enter Try.func42, Try.ntmps42
  go_wp2_with fail
  obtain ⟨bx, hbx⟩ : ∃ bx, bx = W.heap.size := ⟨_, rfl⟩
  obtain ⟨w1, hw⟩ : ∃ w1, w1 = W.alloc (.cells #[.slice A0 n0 c0, .slice A1 ol.length c1, .slice A2 n2 c2, .slice A3 n3 c3, .bool fa, .int .i64 fu, .slice A6 n6 c6] 31) := ⟨_, rfl⟩
  have hx : w1.heap[bx]? = some (.cells #[.slice A0 n0 c0, .slice A1 ol.length c1, .slice A2 n2 c2, .slice A3 n3 c3, .bool fa, .int .i64 fu, .slice A6 n6 c6] 31 (0, 0)) := by rw [hw, hbx]; exact blk_new _ _
  have hb : Below W.heap.size W w1 := by rw [hw]; exact below_alloc (Below.refl _ _) _
  rw [← hw, ← hbx]
  obtain ⟨k0, k1, k2, k3, k4, k5, k6⟩ := cells7 hx
  have HX := Aside0.mk hx
  have HB := Aside0.mk hb
  clear hw hx hb hbx
  refine (HT.out w1).mono ?_
  rintro e w2 ⟨rfl, hb⟩
  clear k0 k1 k2 k3 k4 k5 k6
  have hx := blk_below HX.out hb
  obtain ⟨k0, k1, k2, k3, k4, k5, k6⟩ := cells7 hx
  have hb2 := HB.out.trans (hb.mono HB.out.size)
  clear hb HX HB
  have HX := Aside0.mk hx
  have HB := Aside0.mk hb2
  clear hx hb2
  go_wp2_with fail
  go_ret
  exact ⟨rfl, HB.out⟩
set_option maxRecDepth 100000 in
theorem content_ref (W : World) (st : List ByteArray) (pd : List S99) (hC0 : Kd.C Kd.string W A0 st.length st) (hC2 : Kd.C k99 W A2 pd.length pd) (hpl : pd.length ≤ 1000000) (n : Nat) (hn : n < st.length) :
  Calls Try.prog 58 #[.agg #[.slice A0 st.length c0, .slice A1 n1 c1, .slice A2 pd.length c2, .slice A3 n3 c3, .bool fa, .int .i64 fu, .slice A6 n6 c6], .int .i64 n] W fun e W' => e = .returned (.string ((lastOf n pd).getD (st.getD n ⟨#[]⟩))) ∧ Below W.heap.size W W' := by
 have HC0 := Aside0.mk hC0
 have HC2 := Aside0.mk hC2
 have hnz : ((n : Nat) : Int) < (st.length : Int) := by omega
 have HN := Aside0.mk hn
 clear hC0 hC2 hn
 go_enter Try.func58, Try.ntmps58
 go_wp2_with fail
 obtain ⟨bx, hbx⟩ : ∃ bx, bx = W.heap.size := ⟨_, rfl⟩
 obtain ⟨w1, hw⟩ : ∃ w1, w1 = W.alloc (.cells #[.slice A0 st.length c0, .slice A1 n1 c1, .slice A2 pd.length c2, .slice A3 n3 c3, .bool fa, .int .i64 fu, .slice A6 n6 c6] 31) := ⟨_, rfl⟩
 have hx : w1.heap[bx]? = some (.cells #[.slice A0 st.length c0, .slice A1 n1 c1, .slice A2 pd.length c2, .slice A3 n3 c3, .bool fa, .int .i64 fu, .slice A6 n6 c6] 31 (0, 0)) := by rw [hw, hbx]; exact blk_new _ _
 have hb : Below W.heap.size W w1 := by rw [hw]; exact below_alloc (Below.refl _ _) _
 rw [← hw, ← hbx]
 obtain ⟨k0, k1, k2, k3, k4, k5, k6⟩ := cells7 hx
 have HX := Aside0.mk hx
 have HB := Aside0.mk hb
 clear hw hx hb hbx
 go_loop [5] (fun t => ∃ k : Nat, t = .int .i64 ((k : Int) - 1) ∧ k ≤ pd.length ∧ Aside0 (lastOf n pd = lastOf n (pd.take k))) (fun t => (intOf t + 1).toNat)
 case atStart => exact ⟨pd.length, rfl, Nat.le_refl _, ⟨by rw [List.take_length]⟩⟩
 case round =>
  obtain ⟨k, rfl, hk, HL⟩ := hrel
  cases k with
  | zero =>
   rw [show (((0 : Nat) : Int) - 1) = -1 from rfl]
   obtain ⟨ad, e, q0⟩ := Kd.at_string (Kd.C_below HC0.out HB.out) (n : Int) (by omega) hnz
   rw [Int.toNat_natCast, show rdOf ByteArray.empty st (n : Int) = st.getD n ⟨#[]⟩ by unfold rdOf; rw [Int.toNat_natCast]; rfl] at q0
   obtain ⟨x, hx⟩ : ∃ x, x = st.getD n ⟨#[]⟩ := ⟨_, rfl⟩
   rw [← hx] at q0
   have HXX := Aside0.mk hx
   subst e
   clear hx
   go_wp2_with fail
   go_ret
   refine ⟨?_, HB.out⟩
   have e1 := HL.out
   rw [List.take_zero] at e1
   rw [e1, HXX.out]
   rfl
  | succ j =>
   rw [show (((j + 1 : Nat) : Int) - 1) = (j : Int) from by omega]
   have hjl : (j : Int) < (pd.length : Int) := by omega
   obtain ⟨ad, e, q0, q1, q2⟩ := at_T99 (Kd.C_below HC2.out HB.out) (j : Int) (by omega) hjl
   rw [rdT99_at _ j (by omega)] at q0 q1 q2
   cases e
   rw [Int.toNat_natCast] at q0 q1 q2
   have hs := lastOf_step n pd j (by omega)
   obtain ⟨w, hw⟩ : ∃ w, w = pd[j]'(by omega) := ⟨_, rfl⟩
   rw [← hw] at q0 q1 q2 hs
   have HS := Aside0.mk hs
   clear hs hw
   by_cases hq : w.f1 = (n : Int)
   ·have hb : (w.f1 == (n : Int)) = true := by rw [hq]; simp
    have HQ := Aside0.mk hq
    clear hq
    go_wp2_with fail
    go_ret
    refine ⟨?_, HB.out⟩
    have e1 := HL.out
    have e2 := HS.out
    rw [if_pos HQ.out] at e2
    rw [e1, e2]
    rfl
   ·have hb : (w.f1 == (n : Int)) = false := by simpa using hq
    have HQ := Aside0.mk hq
    clear hq
    go_wp2_with fail
    go_round
    case rel =>
     refine ⟨j, rfl, by omega, ⟨?_⟩⟩
     rw [HL.out, HS.out, if_neg HQ.out]
    case measure => simp [intOf]
set_option maxRecDepth 100000 in
theorem waiting_ref (W : World) (pd : List S99) (hC2 : Kd.C k99 W A2 pd.length pd) (hpl : pd.length ≤ 1000000) (sys : Int) :
  Calls Try.prog 43 #[.agg #[.slice A0 n0 c0, .slice A1 n1 c1, .slice A2 pd.length c2, .slice A3 n3 c3, .bool fa, .int .i64 fu, .slice A6 n6 c6], .int .i64 sys] W fun e W' => e = .returned (.int .i64 ((pd.filter (isOf sys)).length : Int)) ∧ Below W.heap.size W W' := by
 have HC2 := Aside0.mk hC2
 clear hC2
 go_enter Try.func43, Try.ntmps43
 go_wp2_with fail
 obtain ⟨bx, hbx⟩ : ∃ bx, bx = W.heap.size := ⟨_, rfl⟩
 obtain ⟨w1, hw⟩ : ∃ w1, w1 = W.alloc (.cells #[.slice A0 n0 c0, .slice A1 n1 c1, .slice A2 pd.length c2, .slice A3 n3 c3, .bool fa, .int .i64 fu, .slice A6 n6 c6] 31) := ⟨_, rfl⟩
 have hx : w1.heap[bx]? = some (.cells #[.slice A0 n0 c0, .slice A1 n1 c1, .slice A2 pd.length c2, .slice A3 n3 c3, .bool fa, .int .i64 fu, .slice A6 n6 c6] 31 (0, 0)) := by rw [hw, hbx]; exact blk_new _ _
 have hb : Below W.heap.size W w1 := by rw [hw]; exact below_alloc (Below.refl _ _) _
 rw [← hw, ← hbx]
 obtain ⟨k0, k1, k2, k3, k4, k5, k6⟩ := cells7 hx
 have HX := Aside0.mk hx
 have HB := Aside0.mk hb
 clear hw hx hb hbx
 go_loop [5, 6] (fun t u => ∃ k : Nat, t = .int .i64 ((((pd.take k).filter (isOf sys)).length : Nat) : Int) ∧ u = .int .i64 (k : Int) ∧ k ≤ pd.length) (fun _ u => (pd.length - intOf u).toNat)
 case atStart => exact ⟨0, rfl, rfl, Nat.zero_le _⟩
 case round =>
  obtain ⟨k, rfl, rfl, hk⟩ := hrel
  by_cases hlt : k < pd.length
  ·have hjl : (k : Int) < (pd.length : Int) := by omega
   obtain ⟨ad, e, q0, q1, q2⟩ := at_T99 (Kd.C_below HC2.out HB.out) (k : Int) (by omega) hjl
   rw [rdT99_at _ k hlt] at q0 q1 q2
   cases e
   rw [Int.toNat_natCast] at q0 q1 q2
   have hs := filter_step (isOf sys) pd k hlt
   obtain ⟨w, hw⟩ : ∃ w, w = pd[k] := ⟨_, rfl⟩
   rw [← hw] at q0 q1 q2 hs
   obtain ⟨m, hm⟩ : ∃ m, m = ((pd.take k).filter (isOf sys)).length := ⟨_, rfl⟩
   have hmk : m ≤ 1000000 := by rw [hm]; exact Nat.le_trans (List.length_filter_le _ _) (by simp; omega)
   rw [← hm] at hs ⊢
   have HS := Aside0.mk hs
   clear hs hw hm
   have q3 : isOf sys w = (w.f0 == sys) := rfl
   rw [q3] at HS
   clear q3
   by_cases hq : w.f0 = sys
   ·have hb : (w.f0 == sys) = true := by rw [hq]; simp
    have HQ := Aside0.mk hb
    clear hq
    go_wp2_with fail
    go_round
    case rel =>
     refine ⟨k + 1, ?_, by go_num, by omega⟩
     rw [HS.out, if_pos HQ.out]
     go_num
    case measure => simp [intOf]; omega
   ·have hb : (w.f0 == sys) = false := by simpa using hq
    have HQ := Aside0.mk hb
    clear hq
    go_wp2_with fail
    go_round
    case rel =>
     refine ⟨k + 1, ?_, by go_num, by omega⟩
     rw [HS.out, HQ.out]
     go_num
    case measure => simp [intOf]; omega
  ·obtain rfl : k = pd.length := by omega
   rw [List.take_length]
   go_wp2_with fail
   go_ret
   exact ⟨rfl, HB.out⟩
end
end Go.Proofs.Ytflajmgichdhhaa.PG
namespace Go.Proofs.Ytflajmgichdhhaa.PG
open Go.RowKit Go.Proofs.YtflajmgichdhhaaW.PrintWords Go.Proofs.YtflajmgichdhhaaW.PrintLast Go.Proofs.YtflajmgichdhhaaW.PrintMore
set_option linter.unusedVariables false
set_option linter.unusedSimpArgs false
structure RefC (W : World) (v : Value) (A0 A1 A2 A3 A6 : Option Addr) (c0 c1 c2 c3 c6 : Nat) (fl : List Int) (fu : Int) (sv : List Int) (S : DevS) : Prop where
  hv : v = .agg #[.slice A0 S.stable.length c0, .slice A1 S.old.length c1, .slice A2 S.pend.length c2, .slice A3 fl.length c3, .bool S.failed, .int .i64 fu, .slice A6 sv.length c6]
  h0 : Kd.C Kd.string W A0 S.stable.length S.stable
  h1 : Kd.C (Kd.slice 9 Kd.string) W A1 S.old.length S.old
  h2 : Kd.C k99 W A2 S.pend.length S.pend
  h3 : Kd.C (Kd.int .i64) W A3 fl.length fl
  h6 : Kd.C (Kd.int .i64) W A6 sv.length sv
  l0 : S.stable.length ≤ c0
  l1 : S.old.length ≤ c1
  l2 : S.pend.length ≤ c2
  l3 : fl.length ≤ c3
  l6 : sv.length ≤ c6
theorem RefIs.open_ {W : World} {ok : Nat → Prop} {v : Value} {S : DevS} (h : RefIs W ok v S) : ∃ A0 A1 A2 A3 A6 c0 c1 c2 c3 c6 fl fu sv, RefC W v A0 A1 A2 A3 A6 c0 c1 c2 c3 c6 fl fu sv S := by
 obtain ⟨v0, v1, v2, v3, v6, fl, fu, sv, h⟩ := h
 obtain ⟨A0, c0, rfl, l0, h0⟩ := h.h0
 obtain ⟨A1, c1, rfl, l1, h1⟩ := h.h1
 obtain ⟨A2, c2, rfl, l2, h2⟩ := h.h2
 obtain ⟨A3, c3, rfl, l3, h3⟩ := h.h3
 obtain ⟨A6, c6, rfl, l6, h6⟩ := h.h6
 exact ⟨A0, A1, A2, A3, A6, c0, c1, c2, c3, c6, fl, fu, sv, ⟨h.hv, Kd.F_now h0, Kd.F_now h1, Kd.F_now h2, Kd.F_now h3, Kd.F_now h6, l0, l1, l2, l3, l6⟩⟩
section
variable {W : World} {v : Value} {A0 A1 A2 A3 A6 : Option Addr} {c0 c1 c2 c3 c6 : Nat} {fl : List Int} {fu : Int} {sv : List Int} {S : DevS}
set_option maxRecDepth 100000 in
theorem read_ref (h : RefC W v A0 A1 A2 A3 A6 c0 c1 c2 c3 c6 fl fu sv S) (hpl : S.pend.length ≤ 1000000) (w : World) (hbw : Below W.heap.size W w) (i : Int) :
  Calls Try.prog 41 #[v, .int .i64 i] w fun e W' => e = .returned (.tuple #[.string (readS S i).1, .int .i64 (readS S i).2]) ∧ Below w.heap.size w W' := by
 obtain rfl := h.hv
 have HT := Aside0.mk (fun W => there_ref (A0 := A0) (A1 := A1) (A2 := A2) (A3 := A3) (A6 := A6) (c0 := c0) (c1 := c1) (c2 := c2) (c3 := c3) (c6 := c6) (n0 := S.stable.length) (n1 := S.old.length) (n2 := S.pend.length) (n3 := fl.length) (n6 := sv.length) (fa := S.failed) (fu := fu) W i)
 unfold readS
 by_cases hi : 0 ≤ i ∧ i < (S.stable.length : Int)
 ·rw [if_pos hi]
  rw [decide_eq_true hi] at HT
  obtain ⟨n, rfl⟩ := Int.eq_ofNat_of_zero_le hi.1
  have hn : n < S.stable.length := by omega
  have HCC := Aside0.mk (fun (w2 : World) (hb : Below w.heap.size w w2) => content_ref (A0 := A0) (A1 := A1) (A2 := A2) (A3 := A3) (A6 := A6) (c0 := c0) (c1 := c1) (c2 := c2) (c3 := c3) (c6 := c6) (n1 := S.old.length) (n3 := fl.length) (n6 := sv.length) (fa := S.failed) (fu := fu) w2 S.stable S.pend (Kd.C_below h.h0 (hbw.trans (hb.mono hbw.size))) (Kd.C_below h.h2 (hbw.trans (hb.mono hbw.size))) hpl n hn)
  rw [show contentS S (n : Int) = (lastOf n S.pend).getD (S.stable.getD n ⟨#[]⟩) by unfold contentS; rw [Int.toNat_natCast]]
  clear h hbw hi hn
  cases hf : S.failed with
  | true =>
   rw [hf] at HT
   clear hf HCC
   rw [if_pos (by simp)]
   go_enter Try.func41, Try.ntmps41
   go_wp2_with fail
   obtain ⟨bx, hbx⟩ : ∃ bx, bx = w.heap.size := ⟨_, rfl⟩
   obtain ⟨w1, hw⟩ : ∃ w1, w1 = w.alloc (.cells #[.slice A0 S.stable.length c0, .slice A1 S.old.length c1, .slice A2 S.pend.length c2, .slice A3 fl.length c3, .bool true, .int .i64 fu, .slice A6 sv.length c6] 31) := ⟨_, rfl⟩
   have hx : w1.heap[bx]? = some (.cells #[.slice A0 S.stable.length c0, .slice A1 S.old.length c1, .slice A2 S.pend.length c2, .slice A3 fl.length c3, .bool true, .int .i64 fu, .slice A6 sv.length c6] 31 (0, 0)) := by rw [hw, hbx]; exact blk_new _ _
   have hb : Below w.heap.size w w1 := by rw [hw]; exact below_alloc (Below.refl _ _) _
   rw [← hw, ← hbx]
   obtain ⟨k0, k1, k2, k3, k4, k5, k6⟩ := cells7 hx
   have HX := Aside0.mk hx
   have HB := Aside0.mk hb
   clear hw hx hb hbx
   refine (HT.out w1).mono ?_
   rintro e w2 ⟨rfl, hb⟩
   clear k0 k1 k2 k3 k4 k5 k6
   have hx := blk_below HX.out hb
   obtain ⟨k0, k1, k2, k3, k4, k5, k6⟩ := cells7 hx
   have hb2 := HB.out.trans (hb.mono HB.out.size)
   clear hb HX HB
   have HX := Aside0.mk hx
   have HB := Aside0.mk hb2
   clear hx hb2
   go_wp2_with fail
   go_ret2
   exact ⟨rfl, HB.out⟩
  | false =>
   rw [hf] at HT HCC
   clear hf
   rw [if_neg (by simp)]
   obtain ⟨x, hx⟩ : ∃ x, x = (lastOf n S.pend).getD (S.stable.getD n ⟨#[]⟩) := ⟨_, rfl⟩
   rw [← hx] at HCC ⊢
   clear hx
   go_enter Try.func41, Try.ntmps41
   go_wp2_with fail
   obtain ⟨bx, hbx⟩ : ∃ bx, bx = w.heap.size := ⟨_, rfl⟩
   obtain ⟨w1, hw⟩ : ∃ w1, w1 = w.alloc (.cells #[.slice A0 S.stable.length c0, .slice A1 S.old.length c1, .slice A2 S.pend.length c2, .slice A3 fl.length c3, .bool false, .int .i64 fu, .slice A6 sv.length c6] 31) := ⟨_, rfl⟩
   have hx : w1.heap[bx]? = some (.cells #[.slice A0 S.stable.length c0, .slice A1 S.old.length c1, .slice A2 S.pend.length c2, .slice A3 fl.length c3, .bool false, .int .i64 fu, .slice A6 sv.length c6] 31 (0, 0)) := by rw [hw, hbx]; exact blk_new _ _
   have hb : Below w.heap.size w w1 := by rw [hw]; exact below_alloc (Below.refl _ _) _
   rw [← hw, ← hbx]
   obtain ⟨k0, k1, k2, k3, k4, k5, k6⟩ := cells7 hx
   have HX := Aside0.mk hx
   have HB := Aside0.mk hb
   clear hw hx hb hbx
   refine (HT.out w1).mono ?_
   rintro e w2 ⟨rfl, hb⟩
   clear k0 k1 k2 k3 k4 k5 k6
   have hx := blk_below HX.out hb
   obtain ⟨k0, k1, k2, k3, k4, k5, k6⟩ := cells7 hx
   have hb2 := HB.out.trans (hb.mono HB.out.size)
   clear hb HX HB
   have HX := Aside0.mk hx
   have HB := Aside0.mk hb2
   clear hx hb2
   go_wp2_with fail
   refine (HCC.out w2 HB.out).mono ?_
   rintro e w3 ⟨rfl, hb⟩
   have HB3 := Aside0.mk (HB.out.trans (hb.mono HB.out.size))
   clear hb HB
   go_wp2_with fail
   go_ret2
   exact ⟨rfl, HB3.out⟩
 ·rw [if_neg hi]
  rw [decide_eq_false hi] at HT
  clear h hbw hi
  go_enter Try.func41, Try.ntmps41
  go_wp2_with fail
  obtain ⟨bx, hbx⟩ : ∃ bx, bx = w.heap.size := ⟨_, rfl⟩
  obtain ⟨w1, hw⟩ : ∃ w1, w1 = w.alloc (.cells #[.slice A0 S.stable.length c0, .slice A1 S.old.length c1, .slice A2 S.pend.length c2, .slice A3 fl.length c3, .bool S.failed, .int .i64 fu, .slice A6 sv.length c6] 31) := ⟨_, rfl⟩
  have hx : w1.heap[bx]? = some (.cells #[.slice A0 S.stable.length c0, .slice A1 S.old.length c1, .slice A2 S.pend.length c2, .slice A3 fl.length c3, .bool S.failed, .int .i64 fu, .slice A6 sv.length c6] 31 (0, 0)) := by rw [hw, hbx]; exact blk_new _ _
  have hb : Below w.heap.size w w1 := by rw [hw]; exact below_alloc (Below.refl _ _) _
  rw [← hw, ← hbx]
  obtain ⟨k0, k1, k2, k3, k4, k5, k6⟩ := cells7 hx
  have HX := Aside0.mk hx
  have HB := Aside0.mk hb
  clear hw hx hb hbx
  refine (HT.out w1).mono ?_
  rintro e w2 ⟨rfl, hb⟩
  clear k0 k1 k2 k3 k4 k5 k6
  have hx := blk_below HX.out hb
  obtain ⟨k0, k1, k2, k3, k4, k5, k6⟩ := cells7 hx
  have hb2 := HB.out.trans (hb.mono HB.out.size)
  clear hb HX HB
  have HX := Aside0.mk hx
  have HB := Aside0.mk hb2
  clear hx hb2
  go_wp2_with fail
  go_ret2
  exact ⟨rfl, HB.out⟩
def Held (W : World) (b : Nat) (o : Obj) (w : World) : Prop := Below W.heap.size W w ∧ w.heap[b]? = some o
theorem Held.on {W w w2 : World} {b : Nat} {o : Obj} (h : Held W b o w) (hb : Below w.heap.size w w2) : Held W b o w2 := ⟨h.1.trans (hb.mono h.1.size), blk_below h.2 hb⟩
theorem Held.drew {W w : World} {b : Nat} {o : Obj} (h : Held W b o w) : Held W b o w.drew := h.on (Below.refl _ _).drew
set_option maxRecDepth 100000 in
set_option maxHeartbeats 1000000 in
theorem same_calls {B : Nat} {L : Lay} {F : Nat → Prop} {k : Nat} {ok : Nat → Prop} (hD : DevIs W B L F S) (hR : RefIs W ok v S) (hF : Fine k S) (hk : k ≤ 1000000) :
  Calls Try.prog 15 #[.pointer (some ⟨L.g, 0, none⟩), v] W fun e W' => e = .returned (.bool true) ∧ Below W.heap.size W W' := by
 obtain ⟨A0, A1, A2, A3, A6, c0, c1, c2, c3, c6, fl, fu, sv, hC⟩ := hR.open_
 obtain rfl := hC.hv
 have hpl : S.pend.length ≤ 1000000 := Nat.le_trans hF.plen hk
 have hn1 := hF.n1
 have HSE := Aside0.mk (fun (w : World) (hb : Below W.heap.size W w) => by obtain ⟨vs, pv, uv, m, h⟩ := hD.below hb; exact sectors_calls h)
 have HFA := Aside0.mk (fun (w : World) (hb : Below W.heap.size W w) => by obtain ⟨vs, pv, uv, m, h⟩ := hD.below hb; exact failed_calls h)
 have HRD := Aside0.mk (fun (w : World) (hb : Below W.heap.size W w) => readI (hD.below hb) hpl)
 have HPE := Aside0.mk (fun (w : World) (hb : Below W.heap.size W w) => pendI (hD.below hb) hpl)
 have HOL := Aside0.mk (fun (w : World) (hb : Below W.heap.size W w) => oldI (hD.below hb) hF.len)
 have HRR := Aside0.mk (fun (w : World) (hb : Below W.heap.size W w) => read_ref hC hpl w hb)
 have HRE := Aside0.mk (fun (w : World) (hb : Below W.heap.size W w) (i : Int) => show Calls Try.prog 42 #[.agg #[.slice A0 S.stable.length c0, .slice A1 S.old.length c1, .slice A2 S.pend.length c2, .slice A3 fl.length c3, .bool S.failed, .int .i64 fu, .slice A6 sv.length c6], .int .i64 i] w fun e W' => e = .returned (.int .i64 (oldN S i)) ∧ Below w.heap.size w W' from earlier_ref (A0 := A0) (A1 := A1) (A2 := A2) (A3 := A3) (A6 := A6) (c0 := c0) (c1 := c1) (c2 := c2) (c3 := c3) (c6 := c6) (n0 := S.stable.length) (n2 := S.pend.length) (n3 := fl.length) (n6 := sv.length) (fa := S.failed) (fu := fu) w S.old (Kd.C_below hC.h1 hb) hF.len i)
 have HRW := Aside0.mk (fun (w : World) (hb : Below W.heap.size W w) => waiting_ref (A0 := A0) (A1 := A1) (A2 := A2) (A3 := A3) (A6 := A6) (c0 := c0) (c1 := c1) (c2 := c2) (c3 := c3) (c6 := c6) (n0 := S.stable.length) (n1 := S.old.length) (n3 := fl.length) (n6 := sv.length) (fa := S.failed) (fu := fu) w S.pend (Kd.C_below hC.h2 hb) hpl)
 have HPB := Aside0.mk (fun i => show pendN S i ≤ 1000000 from Nat.le_trans (List.length_filter_le _ _) hpl)
 clear hD hR hC hF hpl
 have HW0 := Aside0.mk hn1
 obtain ⟨n0, hn0⟩ : ∃ n0, n0 = S.stable.length := ⟨_, rfl⟩
 obtain ⟨n1, hn1'⟩ : ∃ n1, n1 = S.old.length := ⟨_, rfl⟩
 obtain ⟨n2, hn2⟩ : ∃ n2, n2 = S.pend.length := ⟨_, rfl⟩
 obtain ⟨fa, hfa⟩ : ∃ fa, fa = S.failed := ⟨_, rfl⟩
 rw [← hn0] at HSE HRR HRE HRW hn1
 rw [← hn1'] at HRR HRE HRW
 rw [← hn2] at HRR HRE HRW
 rw [← hfa] at HFA HRR HRE HRW
 rw [← hn0, ← hn1', ← hn2, ← hfa]
 clear hn0 hn1' hn2 hfa HW0
 have nf : (fa != fa) = false := by simp
 have nn : ((n0 : Int) != (n0 : Int)) = false := by simp
 go_enter Try.func15, Try.ntmps15
 go_wp2_with fail
 obtain ⟨bx, hbx⟩ : ∃ bx, bx = W.heap.size := ⟨_, rfl⟩
 obtain ⟨w1, hw⟩ : ∃ w1, w1 = W.alloc (.cells #[.slice A0 n0 c0, .slice A1 n1 c1, .slice A2 n2 c2, .slice A3 fl.length c3, .bool fa, .int .i64 fu, .slice A6 sv.length c6] 31) := ⟨_, rfl⟩
 have hx : w1.heap[bx]? = some (.cells #[.slice A0 n0 c0, .slice A1 n1 c1, .slice A2 n2 c2, .slice A3 fl.length c3, .bool fa, .int .i64 fu, .slice A6 sv.length c6] 31 (0, 0)) := by rw [hw, hbx]; exact blk_new _ _
 have hb : Below W.heap.size W w1 := by rw [hw]; exact below_alloc (Below.refl _ _) _
 rw [← hw, ← hbx]
 obtain ⟨k0, k1, k2, k3, k4, k5, k6⟩ := cells7 hx
 have HX := Aside0.mk hx
 have HB := Aside0.mk hb
 clear hw hx hb hbx
 have HK0 := Aside0.mk (fun w (h : Held W bx (.cells #[.slice A0 n0 c0, .slice A1 n1 c1, .slice A2 n2 c2, .slice A3 fl.length c3, .bool fa, .int .i64 fu, .slice A6 sv.length c6] 31) w) => (show w.cell? ⟨bx, 0, none⟩ = some (.slice A0 n0 c0) by rw [blk_cell h.2]; rfl))
 have HK1 := Aside0.mk (fun w (h : Held W bx (.cells #[.slice A0 n0 c0, .slice A1 n1 c1, .slice A2 n2 c2, .slice A3 fl.length c3, .bool fa, .int .i64 fu, .slice A6 sv.length c6] 31) w) => (show w.cell? ⟨bx, 1, none⟩ = some (.slice A1 n1 c1) by rw [blk_cell h.2]; rfl))
 have HK2 := Aside0.mk (fun w (h : Held W bx (.cells #[.slice A0 n0 c0, .slice A1 n1 c1, .slice A2 n2 c2, .slice A3 fl.length c3, .bool fa, .int .i64 fu, .slice A6 sv.length c6] 31) w) => (show w.cell? ⟨bx, 2, none⟩ = some (.slice A2 n2 c2) by rw [blk_cell h.2]; rfl))
 have HK3 := Aside0.mk (fun w (h : Held W bx (.cells #[.slice A0 n0 c0, .slice A1 n1 c1, .slice A2 n2 c2, .slice A3 fl.length c3, .bool fa, .int .i64 fu, .slice A6 sv.length c6] 31) w) => (show w.cell? ⟨bx, 3, none⟩ = some (.slice A3 fl.length c3) by rw [blk_cell h.2]; rfl))
 have HK4 := Aside0.mk (fun w (h : Held W bx (.cells #[.slice A0 n0 c0, .slice A1 n1 c1, .slice A2 n2 c2, .slice A3 fl.length c3, .bool fa, .int .i64 fu, .slice A6 sv.length c6] 31) w) => (show w.cell? ⟨bx, 4, none⟩ = some (.bool fa) by rw [blk_cell h.2]; rfl))
 have HK5 := Aside0.mk (fun w (h : Held W bx (.cells #[.slice A0 n0 c0, .slice A1 n1 c1, .slice A2 n2 c2, .slice A3 fl.length c3, .bool fa, .int .i64 fu, .slice A6 sv.length c6] 31) w) => (show w.cell? ⟨bx, 5, none⟩ = some (.int .i64 fu) by rw [blk_cell h.2]; rfl))
 have HK6 := Aside0.mk (fun w (h : Held W bx (.cells #[.slice A0 n0 c0, .slice A1 n1 c1, .slice A2 n2 c2, .slice A3 fl.length c3, .bool fa, .int .i64 fu, .slice A6 sv.length c6] 31) w) => (show w.cell? ⟨bx, 6, none⟩ = some (.slice A6 sv.length c6) by rw [blk_cell h.2]; rfl))
 have HH := Aside0.mk (show Held W bx (.cells #[.slice A0 n0 c0, .slice A1 n1 c1, .slice A2 n2 c2, .slice A3 fl.length c3, .bool fa, .int .i64 fu, .slice A6 sv.length c6] 31) w1 from ⟨HB.out, HX.out⟩)
 obtain ⟨O, hO⟩ : ∃ O, O = (.cells #[.slice A0 n0 c0, .slice A1 n1 c1, .slice A2 n2 c2, .slice A3 fl.length c3, .bool fa, .int .i64 fu, .slice A6 sv.length c6] 31 : Obj) := ⟨_, rfl⟩
 rw [← hO] at HH HK0 HK1 HK2 HK3 HK4 HK5 HK6
 have GSE := Aside0.mk (fun w (h : Held W bx O w) => (HSE.out w h.1).mono (R' := fun e w' => e = .returned (.int .i64 (n0 : Int)) ∧ Held W bx O w') (fun e w' ⟨he, hw⟩ => ⟨he, hw ▸ h⟩))
 have GFA := Aside0.mk (fun w (h : Held W bx O w) => (HFA.out w h.1).mono (R' := fun e w' => e = .returned (.bool fa) ∧ Held W bx O w') (fun e w' ⟨he, hw⟩ => ⟨he, hw ▸ h⟩))
 have GRD := Aside0.mk (fun w (h : Held W bx O w) (i : Int) => (HRD.out w h.1 i).mono (R' := fun e w' => e = .returned (.tuple #[.string (readS S i).1, .int .i64 (readS S i).2]) ∧ Held W bx O w') (fun e w' ⟨he, hw⟩ => ⟨he, hw ▸ h⟩))
 have GOL := Aside0.mk (fun w (h : Held W bx O w) (i : Int) => (HOL.out w h.1 i).mono (R' := fun e w' => e = .returned (.int .i64 (oldN S i)) ∧ Held W bx O w') (fun e w' ⟨he, hw⟩ => ⟨he, hw ▸ h⟩))
 have GPE := Aside0.mk (fun w (h : Held W bx O w) (i : Int) => (HPE.out w h.1 i).mono (R' := fun e w' => e = .returned (.int .i64 (pendN S i : Int)) ∧ Held W bx O w') (fun e w' ⟨he, hw⟩ => ⟨he, h.on hw⟩))
 have GRR := Aside0.mk (fun w (h : Held W bx O w) (i : Int) => (HRR.out w h.1 i).mono (R' := fun e w' => e = .returned (.tuple #[.string (readS S i).1, .int .i64 (readS S i).2]) ∧ Held W bx O w') (fun e w' ⟨he, hw⟩ => ⟨he, h.on hw⟩))
 have GRE := Aside0.mk (fun w (h : Held W bx O w) (i : Int) => (HRE.out w h.1 i).mono (R' := fun e w' => e = .returned (.int .i64 (oldN S i)) ∧ Held W bx O w') (fun e w' ⟨he, hw⟩ => ⟨he, h.on hw⟩))
 have GRW := Aside0.mk (fun w (h : Held W bx O w) (i : Int) => (HRW.out w h.1 i).mono (R' := fun e w' => e = .returned (.int .i64 (pendN S i : Int)) ∧ Held W bx O w') (fun e w' ⟨he, hw⟩ => ⟨he, h.on hw⟩))
 have HH0 := Aside0.mk HH.out.drew
 clear HX HB hO HSE HFA HRD HOL HPE HRR HRE HRW HH
 refine start_ (n := 13) (S := fun w' => w'.cell? ⟨bx, 0, none⟩ = some (.slice A0 n0 c0) ∧ w'.cell? ⟨bx, 4, none⟩ = some (.bool fa)) (ds := []) #[false, false, false, false, false, false, false, false, false, false, false, false, false] (by kernel_rfl) rfl rfl ⟨k0, k4⟩ (fun hHeld => ?_)
 refine pure_ (i := 0) (N := some 11) (v := ?_) (a' := ?_) #[true, false, false, false, false, false, false, false, false, false, false, false, false] rfl rfl (by kernel_rfl) (fun _ _ _ h => h) (Or.inl ⟨by rfl, ?_⟩) ?_ ?_
 rotate_left
 ·intro w'
  go_simp
  with_reducible rfl
 rotate_left
 ·simp only [Act.put, List.setIfInBounds_toArray, List.set_cons_zero, List.set_cons_succ, i64_w, i32_w]
  rfl
 refine pure_ (i := 2) (N := some 13) (v := ?_) (a' := ?_) #[true, false, true, false, false, false, false, false, false, false, false, false, false] rfl rfl (by kernel_rfl) (fun _ _ _ h => h) (Or.inl ⟨by rfl, ?_⟩) ?_ ?_
 rotate_left
 ·intro w'
  go_simp
  with_reducible rfl
 rotate_left
 ·simp only [Act.put, List.setIfInBounds_toArray, List.set_cons_zero, List.set_cons_succ, i64_w, i32_w]
  rfl
 refine take_ (i := 3) (N := some 14) (v := ?_) (a' := ?_) #[true, false, true, true, false, false, false, false, false, false, false, false, false] rfl rfl (by kernel_rfl) (fun _ _ _ h => h) (Or.inl ⟨by rfl, ?_⟩) hHeld ?_ ?_
 rotate_left
 ·rintro w' ⟨s0, s1⟩
  go_simp
  with_reducible rfl
 rotate_left
 ·simp only [Act.put, List.setIfInBounds_toArray, List.set_cons_zero, List.set_cons_succ, i64_w, i32_w]
  rfl
 refine pure_ (i := 4) (N := some 15) (v := ?_) (a' := ?_) #[true, false, true, true, true, false, false, false, false, false, false, false, false] rfl rfl (by kernel_rfl) (fun _ _ _ h => h) (Or.inl ⟨by rfl, ?_⟩) ?_ ?_
 rotate_left
 ·intro w'
  go_simp
  with_reducible rfl
 rotate_left
 ·simp only [Act.put, List.setIfInBounds_toArray, List.set_cons_zero, List.set_cons_succ, i64_w, i32_w]
  rfl
 refine one_ (i := 1) (N := some 12) #[true, true, true, true, true, false, false, false, false, false, false, false, false] rfl rfl (by kernel_rfl) (by decide) (fun K hK => ?_)
 refine goes_ Try.func39 (by kernel_rfl) rfl #[.pointer (some ⟨L.g, 0, none⟩)] (by rfl) rfl rfl (by simp only [List.map_toArray, List.map_cons, List.map_nil]; rfl) ?_
 with_reducible refine (GSE.out _ HH0.out).mono ?_
 rintro e w5 ⟨rfl, hh⟩
 refine ⟨_, rfl, ?_⟩
 have HH5 := Aside0.mk hh
 clear hh
 refine hK.out _ _ ⟨HK0.out _ HH5.out, HK4.out _ HH5.out⟩ (fun hHeld => ?_)
 clear hK K
 refine norm_ (a' := ?_) ?_ ?_
 rotate_left
 ·show Act.put _ (some 12) _ = _
  simp only [Act.put, List.setIfInBounds_toArray, List.set_cons_zero, List.set_cons_succ, i64_w, i32_w]
  rfl
 refine pure_ (i := 5) (N := some 16) (v := ?_) (a' := ?_) #[true, true, true, true, true, true, false, false, false, false, false, false, false] rfl rfl (by kernel_rfl) (fun _ _ _ h => h) (Or.inl ⟨by rfl, ?_⟩) ?_ ?_
 rotate_left
 ·intro w'
  go_simp
  with_reducible rfl
 rotate_left
 ·simp only [Act.put, List.setIfInBounds_toArray, List.set_cons_zero, List.set_cons_succ, i64_w, i32_w]
  rfl
 refine pure_ (i := 6) (N := some 17) (v := ?_) (a' := ?_) #[true, true, true, true, true, true, true, false, false, false, false, false, false] rfl rfl (by kernel_rfl) (fun _ _ _ h => h) (Or.inl ⟨by rfl, ?_⟩) ?_ ?_
 rotate_left
 ·intro w'
  go_simp
  with_reducible rfl
 rotate_left
 ·simp only [Act.put, List.setIfInBounds_toArray, List.set_cons_zero, List.set_cons_succ, i64_w, i32_w]
  rfl
 refine pure_ (i := 7) (N := some 18) (v := ?_) (a' := ?_) #[true, true, true, true, true, true, true, true, false, false, false, false, false] rfl rfl (by kernel_rfl) (fun _ _ _ h => h) (Or.inl ⟨by rfl, ?_⟩) ?_ ?_
 rotate_left
 ·intro w'
  go_simp
  with_reducible rfl
 rotate_left
 ·simp only [Act.put, List.setIfInBounds_toArray, List.set_cons_zero, List.set_cons_succ, i64_w, i32_w]
  rfl
 refine pure_ (i := 9) (N := some 20) (v := ?_) (a' := ?_) #[true, true, true, true, true, true, true, true, false, true, false, false, false] rfl rfl (by kernel_rfl) (fun _ _ _ h => h) (Or.inl ⟨by rfl, ?_⟩) ?_ ?_
 rotate_left
 ·intro w'
  go_simp
  with_reducible rfl
 rotate_left
 ·simp only [Act.put, List.setIfInBounds_toArray, List.set_cons_zero, List.set_cons_succ, i64_w, i32_w]
  rfl
 refine take_ (i := 10) (N := some 21) (v := ?_) (a' := ?_) #[true, true, true, true, true, true, true, true, false, true, true, false, false] rfl rfl (by kernel_rfl) (fun _ _ _ h => h) (Or.inl ⟨by rfl, ?_⟩) hHeld ?_ ?_
 rotate_left
 ·rintro w' ⟨s0, s1⟩
  go_simp
  with_reducible rfl
 rotate_left
 ·simp only [Act.put, List.setIfInBounds_toArray, List.set_cons_zero, List.set_cons_succ, i64_w, i32_w]
  rfl
 refine one_ (i := 8) (N := some 19) #[true, true, true, true, true, true, true, true, true, true, true, false, false] rfl rfl (by kernel_rfl) (by decide) (fun K hK => ?_)
 refine goes_ Try.func40 (by kernel_rfl) rfl #[.pointer (some ⟨L.g, 0, none⟩)] (by rfl) rfl rfl (by simp only [List.map_toArray, List.map_cons, List.map_nil]; rfl) ?_
 with_reducible refine (GFA.out _ HH5.out).mono ?_
 rintro e w6 ⟨rfl, hh⟩
 refine ⟨_, rfl, ?_⟩
 have HH6 := Aside0.mk hh
 clear hh
 refine hK.out _ _ ⟨HK0.out _ HH6.out, HK4.out _ HH6.out⟩ (fun hHeld => ?_)
 clear hK K
 refine norm_ (a' := ?_) ?_ ?_
 rotate_left
 ·show Act.put _ (some 19) _ = _
  simp only [Act.put, List.setIfInBounds_toArray, List.set_cons_zero, List.set_cons_succ, i64_w, i32_w]
  rfl
 refine pure_ (i := 11) (N := some 22) (v := ?_) (a' := ?_) #[true, true, true, true, true, true, true, true, true, true, true, true, false] rfl rfl (by kernel_rfl) (fun _ _ _ h => h) (Or.inl ⟨by rfl, ?_⟩) ?_ ?_
 rotate_left
 ·intro w'
  go_simp
  with_reducible rfl
 rotate_left
 ·simp only [Act.put, List.setIfInBounds_toArray, List.set_cons_zero, List.set_cons_succ, i64_w, i32_w]
  rfl
 refine pure_ (i := 12) (N := some 23) (v := ?_) (a' := ?_) #[true, true, true, true, true, true, true, true, true, true, true, true, true] rfl rfl (by kernel_rfl) (fun _ _ _ h => h) (Or.inl ⟨by rfl, ?_⟩) ?_ ?_
 rotate_left
 ·intro w'
  go_simp
  with_reducible rfl
 rotate_left
 ·simp only [Act.put, List.setIfInBounds_toArray, List.set_cons_zero, List.set_cons_succ, i64_w, i32_w]
  rfl
 refine done_ (by kernel_rfl) ?_
 clear HH0 HH5 k0 k1 k2 k3 k4 k5 k6 GSE GFA
 go_wp2_with fail
 go_loopg [5, 6, 7, 8, 9] (n0 + 2) (fun gg s5 _ _ _ _ wr => ∃ j : Nat, s5 = .int .i64 ((j : Int) - 1) ∧ j ≤ n0 + 2 ∧ n0 + 2 - j ≤ gg ∧ Aside0 (Held W bx O wr))
 case atStart => exact ⟨0, by go_num, by omega, by omega, HH6⟩
 case round =>
  clear HH6
  obtain ⟨j, rfl, hj, hgg, HI⟩ := hrel
  by_cases hlt : j ≤ n0 + 1
  ·have hltz : (j : Int) - 1 ≤ (n0 : Int) := by omega
   have hjz : (j : Int) - 1 ≤ 1155 := by omega
   have hjm : -1 ≤ (j : Int) - 1 := by omega
   obtain ⟨i, hi⟩ : ∃ i, i = (j : Int) - 1 := ⟨_, rfl⟩
   have HIJ := Aside0.mk hi
   rw [← hi] at hltz hjz hjm ⊢
   clear hi
   have HR1 := Aside0.mk (fun w h => GRD.out w h i)
   have HR2 := Aside0.mk (fun w h => GRR.out w h i)
   have HO1 := Aside0.mk (fun w h => GOL.out w h i)
   have HO2 := Aside0.mk (fun w h => GRE.out w h i)
   obtain ⟨d, hd⟩ : ∃ d, d = (readS S i).1 := ⟨_, rfl⟩
   obtain ⟨r, hr⟩ : ∃ r, r = (readS S i).2 := ⟨_, rfl⟩
   obtain ⟨q, hq⟩ : ∃ q, q = oldN S i := ⟨_, rfl⟩
   rw [← hd, ← hr] at HR1 HR2
   rw [← hq] at HO1 HO2
   clear hd hr hq
   have e1 : (d.toList == d.toList) = true := bytes_yes rfl
   have e2 : (d.toList != d.toList) = false := by simp
   have e3 : (r != r) = false := by simp
   have e4 : (q != q) = false := by simp
   have hle : decide (i ≤ (n0 : Int)) = true := decide_eq_true hltz
   have k0 := HK0.out _ HI.out
   have k1 := HK1.out _ HI.out
   have k2 := HK2.out _ HI.out
   have k3 := HK3.out _ HI.out
   have k4 := HK4.out _ HI.out
   have k5 := HK5.out _ HI.out
   have k6 := HK6.out _ HI.out
   go_wp2_with fail
   refine (HR1.out _ HI.out).mono ?_
   rintro e w5 ⟨rfl, hh⟩
   have HI5 := Aside0.mk hh
   clear hh HI HR1 k0 k1 k2 k3 k4 k5 k6
   have k0 := HK0.out _ HI5.out
   have k1 := HK1.out _ HI5.out
   have k2 := HK2.out _ HI5.out
   have k3 := HK3.out _ HI5.out
   have k4 := HK4.out _ HI5.out
   have k5 := HK5.out _ HI5.out
   have k6 := HK6.out _ HI5.out
   go_wp2_with fail
   refine (HR2.out _ HI5.out).mono ?_
   rintro e w6 ⟨rfl, hh⟩
   have HI6 := Aside0.mk hh
   clear hh HI5 HR2 k0 k1 k2 k3 k4 k5 k6
   have k0 := HK0.out _ HI6.out
   have k1 := HK1.out _ HI6.out
   have k2 := HK2.out _ HI6.out
   have k3 := HK3.out _ HI6.out
   have k4 := HK4.out _ HI6.out
   have k5 := HK5.out _ HI6.out
   have k6 := HK6.out _ HI6.out
   go_wp2_with fail
   have HI7 := Aside0.mk HI6.out.drew
   refine start_ (n := 17) (S := fun w' => w'.cell? ⟨bx, 0, none⟩ = some (.slice A0 n0 c0) ∧ w'.cell? ⟨bx, 1, none⟩ = some (.slice A1 n1 c1) ∧ w'.cell? ⟨bx, 2, none⟩ = some (.slice A2 n2 c2) ∧ w'.cell? ⟨bx, 3, none⟩ = some (.slice A3 fl.length c3) ∧ w'.cell? ⟨bx, 4, none⟩ = some (.bool fa) ∧ w'.cell? ⟨bx, 5, none⟩ = some (.int .i64 fu) ∧ w'.cell? ⟨bx, 6, none⟩ = some (.slice A6 sv.length c6)) (ds := []) #[false, false, false, false, false, false, false, false, false, false, false, false, false, false, false, false, false] (by kernel_rfl) rfl rfl ⟨k0, k1, k2, k3, k4, k5, k6⟩ (fun hHeld => ?_)
   refine pure_ (i := 0) (N := some 43) (v := ?_) (a' := ?_) #[true, false, false, false, false, false, false, false, false, false, false, false, false, false, false, false, false] rfl rfl (by kernel_rfl) (fun _ _ _ h => h) (Or.inl ⟨by rfl, ?_⟩) ?_ ?_
   rotate_left
   ·intro w'
    go_simp
    with_reducible rfl
   rotate_left
   ·simp only [Act.put, List.setIfInBounds_toArray, List.set_cons_zero, List.set_cons_succ, i64_w, i32_w]
    rfl
   refine pure_ (i := 1) (N := some 44) (v := ?_) (a' := ?_) #[true, true, false, false, false, false, false, false, false, false, false, false, false, false, false, false, false] rfl rfl (by kernel_rfl) (fun _ _ _ h => h) (Or.inl ⟨by rfl, ?_⟩) ?_ ?_
   rotate_left
   ·intro w'
    go_simp
    with_reducible rfl
   rotate_left
   ·simp only [Act.put, List.setIfInBounds_toArray, List.set_cons_zero, List.set_cons_succ, i64_w, i32_w]
    rfl
   refine pure_ (i := 2) (N := some 45) (v := ?_) (a' := ?_) #[true, true, true, false, false, false, false, false, false, false, false, false, false, false, false, false, false] rfl rfl (by kernel_rfl) (fun _ _ _ h => h) (Or.inl ⟨by rfl, ?_⟩) ?_ ?_
   rotate_left
   ·intro w'
    go_simp
    with_reducible rfl
   rotate_left
   ·simp only [Act.put, List.setIfInBounds_toArray, List.set_cons_zero, List.set_cons_succ, i64_w, i32_w]
    rfl
   refine pure_ (i := 3) (N := some 46) (v := ?_) (a' := ?_) #[true, true, true, true, false, false, false, false, false, false, false, false, false, false, false, false, false] rfl rfl (by kernel_rfl) (fun _ _ _ h => h) (Or.inl ⟨by rfl, ?_⟩) ?_ ?_
   rotate_left
   ·intro w'
    go_simp
    with_reducible rfl
   rotate_left
   ·simp only [Act.put, List.setIfInBounds_toArray, List.set_cons_zero, List.set_cons_succ, i64_w, i32_w]
    rfl
   refine pure_ (i := 4) (N := some 47) (v := ?_) (a' := ?_) #[true, true, true, true, true, false, false, false, false, false, false, false, false, false, false, false, false] rfl rfl (by kernel_rfl) (fun _ _ _ h => h) (Or.inl ⟨by rfl, ?_⟩) ?_ ?_
   rotate_left
   ·intro w'
    go_simp
    with_reducible rfl
   rotate_left
   ·simp only [Act.put, List.setIfInBounds_toArray, List.set_cons_zero, List.set_cons_succ, i64_w, i32_w]
    rfl
   refine pure_ (i := 5) (N := some 48) (v := ?_) (a' := ?_) #[true, true, true, true, true, true, false, false, false, false, false, false, false, false, false, false, false] rfl rfl (by kernel_rfl) (fun _ _ _ h => h) (Or.inl ⟨by rfl, ?_⟩) ?_ ?_
   rotate_left
   ·intro w'
    go_simp
    with_reducible rfl
   rotate_left
   ·simp only [Act.put, List.setIfInBounds_toArray, List.set_cons_zero, List.set_cons_succ, i64_w, i32_w]
    rfl
   refine pure_ (i := 6) (N := some 49) (v := ?_) (a' := ?_) #[true, true, true, true, true, true, true, false, false, false, false, false, false, false, false, false, false] rfl rfl (by kernel_rfl) (fun _ _ _ h => h) (Or.inl ⟨by rfl, ?_⟩) ?_ ?_
   rotate_left
   ·intro w'
    go_simp
    with_reducible rfl
   rotate_left
   ·simp only [Act.put, List.setIfInBounds_toArray, List.set_cons_zero, List.set_cons_succ, i64_w, i32_w]
    rfl
   refine pure_ (i := 7) (N := some 50) (v := ?_) (a' := ?_) #[true, true, true, true, true, true, true, true, false, false, false, false, false, false, false, false, false] rfl rfl (by kernel_rfl) (fun _ _ _ h => h) (Or.inl ⟨by rfl, ?_⟩) ?_ ?_
   rotate_left
   ·intro w'
    go_simp
    with_reducible rfl
   rotate_left
   ·simp only [Act.put, List.setIfInBounds_toArray, List.set_cons_zero, List.set_cons_succ, i64_w, i32_w]
    rfl
   refine pure_ (i := 8) (N := some 51) (v := ?_) (a' := ?_) #[true, true, true, true, true, true, true, true, true, false, false, false, false, false, false, false, false] rfl rfl (by kernel_rfl) (fun _ _ _ h => h) (Or.inl ⟨by rfl, ?_⟩) ?_ ?_
   rotate_left
   ·intro w'
    go_simp
    with_reducible rfl
   rotate_left
   ·simp only [Act.put, List.setIfInBounds_toArray, List.set_cons_zero, List.set_cons_succ, i64_w, i32_w]
    rfl
   refine pure_ (i := 9) (N := some 52) (v := ?_) (a' := ?_) #[true, true, true, true, true, true, true, true, true, true, false, false, false, false, false, false, false] rfl rfl (by kernel_rfl) (fun _ _ _ h => h) (Or.inl ⟨by rfl, ?_⟩) ?_ ?_
   rotate_left
   ·intro w'
    go_simp
    with_reducible rfl
   rotate_left
   ·simp only [Act.put, List.setIfInBounds_toArray, List.set_cons_zero, List.set_cons_succ, i64_w, i32_w]
    rfl
   refine pure_ (i := 10) (N := some 53) (v := ?_) (a' := ?_) #[true, true, true, true, true, true, true, true, true, true, true, false, false, false, false, false, false] rfl rfl (by kernel_rfl) (fun _ _ _ h => h) (Or.inl ⟨by rfl, ?_⟩) ?_ ?_
   rotate_left
   ·intro w'
    go_simp
    with_reducible rfl
   rotate_left
   ·simp only [Act.put, List.setIfInBounds_toArray, List.set_cons_zero, List.set_cons_succ, i64_w, i32_w]
    rfl
   refine pure_ (i := 13) (N := some 56) (v := ?_) (a' := ?_) #[true, true, true, true, true, true, true, true, true, true, true, false, false, true, false, false, false] rfl rfl (by kernel_rfl) (fun _ _ _ h => h) (Or.inl ⟨by rfl, ?_⟩) ?_ ?_
   rotate_left
   ·intro w'
    go_simp
    with_reducible rfl
   rotate_left
   ·simp only [Act.put, List.setIfInBounds_toArray, List.set_cons_zero, List.set_cons_succ, i64_w, i32_w]
    rfl
   refine take_ (i := 12) (N := some 55) (v := ?_) (a' := ?_) #[true, true, true, true, true, true, true, true, true, true, true, false, true, true, false, false, false] rfl rfl (by kernel_rfl) (fun _ _ _ h => h) (Or.inl ⟨by rfl, ?_⟩) hHeld ?_ ?_
   rotate_left
   ·rintro w' ⟨s0, s1, s2, s3, s4, s5, s6⟩
    go_simp
    with_reducible rfl
   rotate_left
   ·simp only [Act.put, List.setIfInBounds_toArray, List.set_cons_zero, List.set_cons_succ, i64_w, i32_w]
    rfl
   refine one_ (i := 11) (N := some 54) #[true, true, true, true, true, true, true, true, true, true, true, true, true, true, false, false, false] rfl rfl (by kernel_rfl) (by decide) (fun K hK => ?_)
   refine goes_ Try.func25 (by kernel_rfl) rfl #[.pointer (some ⟨L.g, 0, none⟩), .int .i64 i] (by rfl) rfl rfl (by simp only [List.map_toArray, List.map_cons, List.map_nil]; rfl) ?_
   with_reducible refine (HO1.out _ HI7.out).mono ?_
   rintro e w8 ⟨rfl, hh⟩
   refine ⟨_, rfl, ?_⟩
   have HI8 := Aside0.mk hh
   clear hh
   refine hK.out _ _ ⟨HK0.out _ HI8.out, HK1.out _ HI8.out, HK2.out _ HI8.out, HK3.out _ HI8.out, HK4.out _ HI8.out, HK5.out _ HI8.out, HK6.out _ HI8.out⟩ (fun hHeld => ?_)
   clear hK K
   refine norm_ (a' := ?_) ?_ ?_
   rotate_left
   ·show Act.put _ (some 54) _ = _
    simp only [Act.put, List.setIfInBounds_toArray, List.set_cons_zero, List.set_cons_succ, i64_w, i32_w]
    rfl
   refine one_ (i := 14) (N := some 57) #[true, true, true, true, true, true, true, true, true, true, true, true, true, true, true, false, false] rfl rfl (by kernel_rfl) (by decide) (fun K hK => ?_)
   refine goes_ Try.func42 (by kernel_rfl) rfl #[.agg #[.slice A0 n0 c0, .slice A1 n1 c1, .slice A2 n2 c2, .slice A3 fl.length c3, .bool fa, .int .i64 fu, .slice A6 sv.length c6], .int .i64 i] (by rfl) rfl rfl (by simp only [List.map_toArray, List.map_cons, List.map_nil]; rfl) ?_
   with_reducible refine (HO2.out _ HI8.out).mono ?_
   rintro e w9 ⟨rfl, hh⟩
   refine ⟨_, rfl, ?_⟩
   have HI9 := Aside0.mk hh
   clear hh
   refine hK.out _ _ ⟨HK0.out _ HI9.out, HK1.out _ HI9.out, HK2.out _ HI9.out, HK3.out _ HI9.out, HK4.out _ HI9.out, HK5.out _ HI9.out, HK6.out _ HI9.out⟩ (fun hHeld => ?_)
   clear hK K
   refine norm_ (a' := ?_) ?_ ?_
   rotate_left
   ·show Act.put _ (some 57) _ = _
    simp only [Act.put, List.setIfInBounds_toArray, List.set_cons_zero, List.set_cons_succ, i64_w, i32_w]
    rfl
   refine pure_ (i := 15) (N := some 58) (v := ?_) (a' := ?_) #[true, true, true, true, true, true, true, true, true, true, true, true, true, true, true, true, false] rfl rfl (by kernel_rfl) (fun _ _ _ h => h) (Or.inl ⟨by rfl, ?_⟩) ?_ ?_
   rotate_left
   ·intro w'
    go_simp
    with_reducible rfl
   rotate_left
   ·simp only [Act.put, List.setIfInBounds_toArray, List.set_cons_zero, List.set_cons_succ, i64_w, i32_w]
    rfl
   refine pure_ (i := 16) (N := some 59) (v := ?_) (a' := ?_) #[true, true, true, true, true, true, true, true, true, true, true, true, true, true, true, true, true] rfl rfl (by kernel_rfl) (fun _ _ _ h => h) (Or.inl ⟨by rfl, ?_⟩) ?_ ?_
   rotate_left
   ·intro w'
    go_simp
    with_reducible rfl
   rotate_left
   ·simp only [Act.put, List.setIfInBounds_toArray, List.set_cons_zero, List.set_cons_succ, i64_w, i32_w]
    rfl
   refine done_ (by kernel_rfl) ?_
   clear HI6 HI7 HI8 HO1 HO2 k0 k1 k2 k3 k4 k5 k6
   go_wp2_with fail
   go_roundg (n0 + 2 - (j + 1))
   case measure => omega
   case rel => exact ⟨j + 1, by have := HIJ.out; rw [this]; go_num, by omega, Nat.le_refl _, HI9⟩
  ·obtain rfl : j = n0 + 2 := by omega
   have hd : decide (((n0 + 2 : Nat) : Int) - 1 ≤ (n0 : Int)) = false := decide_eq_false (by omega)
   obtain ⟨i, hi⟩ : ∃ i, i = ((n0 + 2 : Nat) : Int) - 1 := ⟨_, rfl⟩
   rw [← hi] at hd ⊢
   clear hi hlt hj hgg
   have k0 := HK0.out _ HI.out
   go_wp2_with fail
   clear k0
   go_loopg [10] 6 (fun gg s10 wr => ∃ j : Nat, s10 = .int .i64 (j : Int) ∧ j ≤ 6 ∧ 6 - j ≤ gg ∧ Aside0 (Held W bx O wr))
   case atStart => exact ⟨0, by go_num, by omega, by omega, HI⟩
   case round =>
    clear HI
    obtain ⟨j, rfl, hj, hgg, HI⟩ := hrel
    by_cases hlt : j ≤ 5
    ·have hltz : (j : Int) ≤ 5 := by omega
     have HP1 := Aside0.mk (fun w h => GPE.out w h j)
     have HP2 := Aside0.mk (fun w h => GRW.out w h j)
     obtain ⟨p, hp⟩ : ∃ p, p = pendN S j := ⟨_, rfl⟩
     rw [← hp] at HP1 HP2
     clear hp
     have e5 : ((p : Int) != (p : Int)) = false := by simp
     have k0 := HK0.out _ HI.out
     have k1 := HK1.out _ HI.out
     have k2 := HK2.out _ HI.out
     have k3 := HK3.out _ HI.out
     have k4 := HK4.out _ HI.out
     have k5 := HK5.out _ HI.out
     have k6 := HK6.out _ HI.out
     go_wp2_with fail
     have HI7 := Aside0.mk HI.out.drew
     refine start_ (n := 7) (S := fun w' => w'.cell? ⟨bx, 0, none⟩ = some (.slice A0 n0 c0) ∧ w'.cell? ⟨bx, 1, none⟩ = some (.slice A1 n1 c1) ∧ w'.cell? ⟨bx, 2, none⟩ = some (.slice A2 n2 c2) ∧ w'.cell? ⟨bx, 3, none⟩ = some (.slice A3 fl.length c3) ∧ w'.cell? ⟨bx, 4, none⟩ = some (.bool fa) ∧ w'.cell? ⟨bx, 5, none⟩ = some (.int .i64 fu) ∧ w'.cell? ⟨bx, 6, none⟩ = some (.slice A6 sv.length c6)) (ds := []) #[false, false, false, false, false, false, false] (by kernel_rfl) rfl rfl ⟨k0, k1, k2, k3, k4, k5, k6⟩ (fun hHeld => ?_)
     refine pure_ (i := 0) (N := some 64) (v := ?_) (a' := ?_) #[true, false, false, false, false, false, false] rfl rfl (by kernel_rfl) (fun _ _ _ h => h) (Or.inl ⟨by rfl, ?_⟩) ?_ ?_
     rotate_left
     ·intro w'
      go_simp
      with_reducible rfl
     rotate_left
     ·simp only [Act.put, List.setIfInBounds_toArray, List.set_cons_zero, List.set_cons_succ, i64_w, i32_w]
      rfl
     refine pure_ (i := 1) (N := some 65) (v := ?_) (a' := ?_) #[true, true, false, false, false, false, false] rfl rfl (by kernel_rfl) (fun _ _ _ h => h) (Or.inl ⟨by rfl, ?_⟩) ?_ ?_
     rotate_left
     ·intro w'
      go_simp
      with_reducible rfl
     rotate_left
     ·simp only [Act.put, List.setIfInBounds_toArray, List.set_cons_zero, List.set_cons_succ, i64_w, i32_w]
      rfl
     refine pure_ (i := 4) (N := some 68) (v := ?_) (a' := ?_) #[true, true, false, false, true, false, false] rfl rfl (by kernel_rfl) (fun _ _ _ h => h) (Or.inl ⟨by rfl, ?_⟩) ?_ ?_
     rotate_left
     ·intro w'
      go_simp
      with_reducible rfl
     rotate_left
     ·simp only [Act.put, List.setIfInBounds_toArray, List.set_cons_zero, List.set_cons_succ, i64_w, i32_w]
      rfl
     refine take_ (i := 3) (N := some 67) (v := ?_) (a' := ?_) #[true, true, false, true, true, false, false] rfl rfl (by kernel_rfl) (fun _ _ _ h => h) (Or.inl ⟨by rfl, ?_⟩) hHeld ?_ ?_
     rotate_left
     ·rintro w' ⟨s0, s1, s2, s3, s4, s5, s6⟩
      go_simp
      with_reducible rfl
     rotate_left
     ·simp only [Act.put, List.setIfInBounds_toArray, List.set_cons_zero, List.set_cons_succ, i64_w, i32_w]
      rfl
     refine one_ (i := 2) (N := some 66) #[true, true, true, true, true, false, false] rfl rfl (by kernel_rfl) (by decide) (fun K hK => ?_)
     refine goes_ Try.func24 (by kernel_rfl) rfl #[.pointer (some ⟨L.g, 0, none⟩), .int .i64 j] (by rfl) rfl rfl (by simp only [List.map_toArray, List.map_cons, List.map_nil]; rfl) ?_
     with_reducible refine (HP1.out _ HI7.out).mono ?_
     rintro e w8 ⟨rfl, hh⟩
     refine ⟨_, rfl, ?_⟩
     have HI8 := Aside0.mk hh
     clear hh
     refine hK.out _ _ ⟨HK0.out _ HI8.out, HK1.out _ HI8.out, HK2.out _ HI8.out, HK3.out _ HI8.out, HK4.out _ HI8.out, HK5.out _ HI8.out, HK6.out _ HI8.out⟩ (fun hHeld => ?_)
     clear hK K
     refine norm_ (a' := ?_) ?_ ?_
     rotate_left
     ·show Act.put _ (some 66) _ = _
      simp only [Act.put, List.setIfInBounds_toArray, List.set_cons_zero, List.set_cons_succ, i64_w, i32_w]
      rfl
     refine one_ (i := 5) (N := some 69) #[true, true, true, true, true, true, false] rfl rfl (by kernel_rfl) (by decide) (fun K hK => ?_)
     refine goes_ Try.func43 (by kernel_rfl) rfl #[.agg #[.slice A0 n0 c0, .slice A1 n1 c1, .slice A2 n2 c2, .slice A3 fl.length c3, .bool fa, .int .i64 fu, .slice A6 sv.length c6], .int .i64 j] (by rfl) rfl rfl (by simp only [List.map_toArray, List.map_cons, List.map_nil]; rfl) ?_
     with_reducible refine (HP2.out _ HI8.out).mono ?_
     rintro e w9 ⟨rfl, hh⟩
     refine ⟨_, rfl, ?_⟩
     have HI9 := Aside0.mk hh
     clear hh
     refine hK.out _ _ ⟨HK0.out _ HI9.out, HK1.out _ HI9.out, HK2.out _ HI9.out, HK3.out _ HI9.out, HK4.out _ HI9.out, HK5.out _ HI9.out, HK6.out _ HI9.out⟩ (fun hHeld => ?_)
     clear hK K
     refine norm_ (a' := ?_) ?_ ?_
     rotate_left
     ·show Act.put _ (some 69) _ = _
      simp only [Act.put, List.setIfInBounds_toArray, List.set_cons_zero, List.set_cons_succ, i64_w, i32_w]
      rfl
     refine pure_ (i := 6) (N := some 70) (v := ?_) (a' := ?_) #[true, true, true, true, true, true, true] rfl rfl (by kernel_rfl) (fun _ _ _ h => h) (Or.inl ⟨by rfl, ?_⟩) ?_ ?_
     rotate_left
     ·intro w'
      go_simp
      with_reducible rfl
     rotate_left
     ·simp only [Act.put, List.setIfInBounds_toArray, List.set_cons_zero, List.set_cons_succ, i64_w, i32_w]
      rfl
     refine done_ (by kernel_rfl) ?_
     clear HI HI7 HI8 HP1 HP2 k0 k1 k2 k3 k4 k5 k6
     go_wp2_with fail
     go_roundg (6 - (j + 1))
     case measure => omega
     case rel => exact ⟨j + 1, by go_num, by omega, Nat.le_refl _, HI9⟩
    ·obtain rfl : j = 6 := by omega
     go_wp2_with fail
     go_ret
     exact ⟨rfl, HI.out.1⟩
end
end Go.Proofs.Ytflajmgichdhhaa.PG
namespace Go.Proofs.Ytflajmgichdhhaa.PG
open Go.RowKit Go.Proofs.YtflajmgichdhhaaW.PrintWords Go.Proofs.YtflajmgichdhhaaW.PrintLast Go.Proofs.YtflajmgichdhhaaW.PrintMore
set_option linter.unusedVariables false
set_option linter.unusedSimpArgs false
abbrev OneV := {v : Value // v.oneCell' = true}
def kV : Kd OneV := Kd.scalar (fun x => x.1) (fun x => x.2)
theorem slice_one (A : Option Addr) (n c : Nat) : (Value.slice A n c).oneCell' = true := rfl
theorem rows_open {W : World} {ok : Nat → Prop} {A : Option Addr} {ol : List (List ByteArray)} (hF : Kd.F (Kd.slice 9 Kd.string) W ok A ol.length ol) :
  ∃ us : List OneV, Kd.C kV W A ol.length us ∧ ∀ (i : Nat) (x : List ByteArray), ol[i]? = some x → ∃ u, us[i]? = some u ∧ Kd.V Kd.string 9 W 0 ok u.1 x := by
 have hmax := Kd.F_max hF
 have key : ∀ i : Fin ol.length, ∃ u : OneV, (∃ ad, A = some ad ∧ W.cell? (ad.add i.1) = some u.1) ∧ Kd.V Kd.string 9 W 0 ok u.1 ol[i.1] := by
  intro i
  obtain ⟨ad, cs, he, hcl, hK, hcc, _⟩ := Kd.F_get hF [] (i.1 : Int) (by omega) (by have := i.2; omega)
  rw [Int.toNat_natCast, List.getD_eq_getElem?_getD, List.getElem?_eq_getElem i.2] at hK
  obtain ⟨Ai, ci, e, h1, h2⟩ := Kd.FK_slice_open hK
  rw [e] at hcc
  have hc := hcc 0 _ rfl
  rw [Int.toNat_natCast] at hc
  refine ⟨⟨_, slice_one Ai _ ci⟩, ⟨ad, he, ?_⟩, ⟨Ai, ci, rfl, h1, h2⟩⟩
  simpa [show (Kd.slice 9 Kd.string).sz = 1 from rfl] using hc
 refine ⟨List.ofFn (fun i => Classical.choose (key i)), ⟨by simp, hmax, fun h0 => ?_⟩, fun i x hx => ?_⟩
 ·obtain ⟨ad, he, _⟩ := (Classical.choose_spec (key ⟨0, h0⟩)).1
  refine ⟨ad, he, fun j p hj => ?_⟩
  have hjl : j < ol.length := by have := (List.getElem?_eq_some_iff.1 hj).1; simpa using this
  rw [List.getElem?_ofFn, dif_pos hjl] at hj
  obtain rfl := Option.some.inj hj
  obtain ⟨ad', he', hc⟩ := (Classical.choose_spec (key ⟨j, hjl⟩)).1
  obtain rfl := Option.some.inj (he.symm.trans he')
  refine ⟨[_], rfl, rfl, fun q u hu => ?_⟩
  cases q with
  | zero => cases hu; simpa [show kV.sz = 1 from rfl] using hc
  | succ q => cases hu
 ·obtain ⟨hi, ex⟩ := List.getElem?_eq_some_iff.1 hx
  refine ⟨Classical.choose (key ⟨i, hi⟩), by rw [List.getElem?_ofFn, dif_pos hi], ?_⟩
  rw [← ex]
  exact (Classical.choose_spec (key ⟨i, hi⟩)).2
theorem rows_V {W : World} {ok : Nat → Prop} {g cap : Nat} {cur : Array Value} {ol : List (List ByteArray)} (hb : W.heap[g]? = some (.cells cur 26 (0, 0))) (hm : ol.length ≤ 9223372036854775807) (hc : ol.length ≤ cap)
  (hr : ∀ (i : Nat) (x : List ByteArray), ol[i]? = some x → ∃ u, cur[i]? = some u ∧ Kd.V Kd.string 9 W 0 ok u x) :
  Kd.V (Kd.slice 9 Kd.string) 26 W 0 (fun k => ok k ∨ k = g) (.slice (some ⟨g, 0, none⟩) ol.length cap) ol := by
 refine ⟨_, _, rfl, hc, fun W' hW => ⟨rfl, hm, fun _ => ⟨_, rfl, fun j x hj => ?_⟩⟩⟩
 obtain ⟨u, hu, Ai, ci, e, h1, h2⟩ := hr j x hj
 have hb' : W'.heap[g]? = some (.cells cur 26 (0, 0)) := (hW g (Or.inr rfl) (blk_lt hb)).trans hb
 refine ⟨[.slice Ai x.length ci], rfl, ⟨Ai, ci, rfl, h1, h2 W' (fun k hk hlt => hW k (Or.inl hk) hlt)⟩, fun q v hv => ?_⟩
 cases q with
 | zero =>
  cases hv
  have : Addr.add ⟨g, 0, none⟩ j = ⟨g, j, none⟩ := by simp [Addr.add]; intro hz; exact hz.symm
  rw [show (Kd.slice 9 Kd.string).sz = 1 from rfl, Nat.mul_one, Nat.add_zero, this, blk_cell hb', hu, e]
 | succ q => cases hv
theorem scal_V {α : Type} {enc : α → Value} {h1 : ∀ x, (enc x).oneCell' = true} {e : Nat} {W : World} {g cap : Nat} {cur : Array Value} {xs : List α} (hb : W.heap[g]? = some (.cells cur e (0, 0))) (hm : xs.length ≤ 9223372036854775807) (hc : xs.length ≤ cap)
  (hr : ∀ (i : Nat) (x : α), xs[i]? = some x → cur[i]? = some (enc x)) :
  Kd.V (Kd.scalar enc h1) e W 0 (fun k => k = g) (.slice (some ⟨g, 0, none⟩) xs.length cap) xs := by
 refine ⟨_, _, rfl, hc, fun W' hW => ⟨rfl, hm, fun _ => ⟨_, rfl, fun j x hj => ?_⟩⟩⟩
 have hb' : W'.heap[g]? = some (.cells cur e (0, 0)) := (hW g rfl (blk_lt hb)).trans hb
 refine ⟨[enc x], rfl, rfl, fun q v hv => ?_⟩
 cases q with
 | zero =>
  cases hv
  have : Addr.add ⟨g, 0, none⟩ j = ⟨g, j, none⟩ := by simp [Addr.add]; intro hz; exact hz.symm
  rw [show (Kd.scalar enc h1).sz = 1 from rfl, Nat.mul_one, Nat.add_zero, this, blk_cell hb', hr j x hj]
 | succ q => cases hv
theorem own_open {α : Type} {enc : α → Value} {h1 : ∀ x, (enc x).oneCell' = true} {e base : Nat} {ok : Nat → Prop} {w : World} {v : Value} {xs : List α} (h : (Kd.scalar enc h1).R e w base ok v xs) (h0 : 0 < xs.length) :
  ∃ g cap cur, v = .slice (some ⟨g, 0, none⟩) xs.length cap ∧ base ≤ g ∧ w.heap[g]? = some (.cells cur e (0, 0)) ∧ xs.length ≤ cap ∧ cap ≤ maxLen ∧ ∀ (i : Nat) (x : α), xs[i]? = some x → cur[i]? = some (enc x) := by
 have hown := Kd.own_of_R h
 rcases hown.2 with ⟨_, hz⟩ | ⟨g, cap, cur, hv, hb, hh, hn, hcm, hcs, ht⟩
 ·omega
 ·refine ⟨g, cap, cur, hv, hb, hh, hn, hcm, fun i x hx => ?_⟩
  have hi := (List.getElem?_eq_some_iff.1 hx).1
  have h2 : (cur.toList.take (xs.length * 1))[i]? = some (enc x) := by
   rw [ht]
   simp [encs, List.getElem?_map, hx]
  rw [List.getElem?_take, if_pos (by omega), Array.getElem?_toList] at h2
  exact h2
theorem results_c {P : Program} {fn : Func} {p : Tmp} {ty : TypeId} (h : fn.results = #[.cell p ty]) (tmps : Array Value) (w : World) (g : Nat) (t : TypeId) (cs : Array Value) (fr : Nat × Nat) (d : TypeDesc)
  (hp : tmps.getD p undef = .pointer (some ⟨g, 0, none⟩)) (hg : w.heap[g]? = some (.cells cs t fr))
  (hu : P.underlying ty = some d) (hd : (match d with | .struct _ | .array _ _ => true | _ => false) = true) (hi : (P.info? ty).map (·.size) = some cs.size) :
  (results fn tmps).run P w = .ok (.agg cs) w := by
 have hp' : tmps[p]?.getD undef = .pointer (some ⟨g, 0, none⟩) := by simpa using hp
 simp [results, h, hp', asAddr, run_loadVar_row w g t ty cs fr d hg hu hd hi]
end Go.Proofs.Ytflajmgichdhhaa.PG
namespace Go.Proofs.Ytflajmgichdhhaa.PG
open Go.RowKit Go.Proofs.YtflajmgichdhhaaW.PrintWords Go.Proofs.YtflajmgichdhhaaW.PrintLast Go.Proofs.YtflajmgichdhhaaW.PrintMore
set_option linter.unusedVariables false
set_option linter.unusedSimpArgs false
theorem empty_own' {α : Type} {d : Kd α} {e : Nat} {w : World} {B g : Nat} (hb : w.heap[g]? = some (.cells #[] e (0, 0))) (hle : B ≤ g) : Kd.R d e w B (fun k => B ≤ k) (.slice (some ⟨g, 0, none⟩) 0 0) [] := by
 refine ⟨fun k hk => ?_, [], ⟨by simp, Or.inr ⟨g, 0, #[], rfl, hle, hb, Nat.le_refl _, Nat.zero_le _, by simp, by simp⟩⟩, Reps.none _ _⟩
 simp [Value.ownBlock] at hk
 omega
theorem one_own {w : World} {B g : Nat} {x : ByteArray} (hb : w.heap[g]? = some (.cells #[.string x] 9 (0, 0))) (hle : B ≤ g) : Kd.R Kd.string 9 w B (fun k => B ≤ k) (.slice (some ⟨g, 0, none⟩) 1 1) [x] := by
 refine ⟨fun k hk => ?_, [.string x], ⟨by simp [Kd.string, Kd.scalar], Or.inr ⟨g, 1, #[.string x], rfl, hle, hb, Nat.le_refl _, by decide, by simp [Kd.string, Kd.scalar], by simp [Kd.string, Kd.scalar]⟩⟩, Reps.one (show [Value.string x] = [Value.string x] from rfl) (Reps.none _ _)⟩
 simp [Value.ownBlock] at hk
 omega
theorem set_cur {α : Type} (enc : α → Value) {cur : Array Value} {xs : List α} (h : ∀ (j : Nat) (x : α), xs[j]? = some x → cur[j]? = some (enc x)) (i : Nat) (hi : i < xs.length) (d : α) (u : Value) (hu : u = enc d) : ∀ (j : Nat) (x : α), (xs.set i d)[j]? = some x → (cur.setIfInBounds i u)[j]? = some (enc x) := by
 intro j x hx
 have hc := h i _ (List.getElem?_eq_getElem hi)
 have hsz := (Array.getElem?_eq_some_iff.1 hc).1
 rw [List.getElem?_set] at hx
 rw [Array.getElem?_setIfInBounds]
 by_cases e : i = j
 ·rw [if_pos e, if_pos hi] at hx
  obtain rfl := Option.some.inj hx
  rw [if_pos e, if_pos hsz, hu]
 ·rw [if_neg e] at hx
  rw [if_neg e]
  exact h j x hx
theorem rch_end {W wC : World} {ok : Nat → Prop} {v0 v1 v5 w : Value} {fl : List Int} {fu : Int} {sv : List Int} {S : DevS} {n0 n1 n2 n3 n6 g1 g2 cap1 cap2 c2 c3 c6 : Nat} {fa : Bool} {A2 A3 A6 : Option Addr} {cur1 cur2 : Array Value} {us : List OneV}
  (hA : RefAt W ok w v0 v1 (.slice A2 S.pend.length c2) (.slice A3 fl.length c3) (.slice A6 sv.length c6) fl fu sv S) (hE : n0 = S.stable.length ∧ n1 = S.old.length ∧ n2 = S.pend.length ∧ n3 = fl.length ∧ n6 = sv.length ∧ fa = S.failed) (hb : Below W.heap.size W wC) (i : Nat) (hi : i < S.stable.length) (hi1 : i < S.old.length) (d x : ByteArray) (y : List ByteArray) (hy : S.old[i]? = some y)
  (h1 : wC.heap[g1]? = some (.cells (cur1.setIfInBounds i (.string d)) 9 (0, 0))) (hc1 : ∀ (j : Nat) (x : ByteArray), S.stable[j]? = some x → cur1[j]? = some (.string x)) (h2 : wC.heap[g2]? = some (.cells (cur2.setIfInBounds i v5) 26 (0, 0))) (hc2 : ∀ (j : Nat) (u : OneV), us[j]? = some u → cur2[j]? = some u.1)
  (hV : Kd.V Kd.string 9 wC 0 (fun k => W.heap.size ≤ k) v5 ((x :: y).take 8)) (hus : ∀ (j : Nat) (x : List ByteArray), S.old[j]? = some x → ∃ u, us[j]? = some u ∧ Kd.V Kd.string 9 W 0 ok u.1 x) (l1 : W.heap.size ≤ g1) (l2 : W.heap.size ≤ g2) (hcn1 : Aside0 (n0 ≤ cap1)) (hcn2 : Aside0 (n1 ≤ cap2)) (hm0 : n0 ≤ 1155) (hm1 : n1 ≤ 1155) :
  RefIs wC (fun k => ok k ∨ W.heap.size ≤ k) (.agg #[.slice (some ⟨g1, 0, none⟩) n0 cap1, .slice (some ⟨g2, 0, none⟩) n1 cap2, .slice A2 n2 c2, .slice A3 n3 c3, .bool fa, .int .i64 fu, .slice A6 n6 c6]) { S with stable := S.stable.set i d, old := S.old.set i ((x :: S.old.getD i []).take 8) } := by
 obtain ⟨rfl, rfl, rfl, rfl, rfl, rfl⟩ := hE
 have hgd : S.old.getD i [] = y := by rw [List.getD_eq_getElem?_getD, hy]; rfl
 have mv : ∀ {α : Type} {d : Kd α} {e : Nat} {u : Value} {xs : List α}, Kd.V d e W 0 ok u xs → Kd.V d e wC 0 (fun k => ok k ∨ W.heap.size ≤ k) u xs := fun hu => Kd.V_mono (Kd.V_below hu hb) (fun k hk => Or.inl hk)
 refine ⟨_, _, _, _, _, fl, fu, sv, { hv := rfl, h0 := ?_, h1 := ?_, h2 := mv hA.h2, h3 := mv hA.h3, h6 := mv hA.h6, fl5 := hA.fl5, fok := hA.fok, uok := hA.uok }⟩
 ·have := scal_V (h1 := fun _ => rfl) (cap := cap1) h1 (by simp; omega) (by simpa using hcn1.out) (set_cur Value.string hc1 i hi d _ rfl)
  rw [List.length_set] at this
  exact Kd.V_mono this (fun k hk => by rw [hk]; exact Or.inr l1)
 ·rw [hgd]
  have := rows_V (ok := fun k => ok k ∨ W.heap.size ≤ k) (cap := cap2) (ol := S.old.set i ((x :: y).take 8)) h2 (by simp; omega) (by simpa using hcn2.out) (fun j z hz => by
   rw [List.getElem?_set] at hz
   rw [Array.getElem?_setIfInBounds]
   by_cases e : i = j
   ·rw [if_pos e, if_pos hi1] at hz
    obtain rfl := Option.some.inj hz
    obtain ⟨ui, hui, _⟩ := hus i y hy
    have hsz := (Array.getElem?_eq_some_iff.1 (hc2 i ui hui)).1
    exact ⟨v5, by rw [if_pos e, if_pos hsz], Kd.V_mono hV (fun k hk => Or.inr hk)⟩
   ·rw [if_neg e] at hz
    obtain ⟨u, hu, hv⟩ := hus j z hz
    exact ⟨u.1, by rw [if_neg e]; exact hc2 j u hu, mv hv⟩)
  rw [List.length_set] at this
  exact Kd.V_mono this (fun k hk => hk.elim id (fun e => by rw [e]; exact Or.inr l2))
def RChPost (ok : Nat → Prop) (S' : DevS) (W : World) (e : Ending) (W' : World) : Prop := ∃ v, e = .returned v ∧ RefIs W' (fun k => ok k ∨ W.heap.size ≤ k) v S' ∧ Below W.heap.size W W'
set_option maxRecDepth 100000 in
set_option maxHeartbeats 4000000 in
theorem change_ref {W : World} {ok : Nat → Prop} {v : Value} {S : DevS} (hR : RefIs W ok v S) (i : Nat) (hi : i < S.stable.length) (d : ByteArray) (hn : S.stable.length ≤ 1155) (ho : S.old.length = S.stable.length) (hol : ∀ l ∈ S.old, l.length ≤ 8) :
  Calls Try.prog 57 #[v, .int .i64 i, .string d] W fun e W' => RChPost ok (changeS i d S) W e W' := by
 have hR0 := hR
 obtain ⟨v0, v1, v2, v3, v6, fl, fu, sv, hA⟩ := hR
 obtain rfl := hA.hv
 obtain ⟨A0, c0, e0, hl0, hF0⟩ := hA.h0
 obtain ⟨A1, c1, e1, hl1, hF1⟩ := hA.h1
 obtain ⟨A2, c2, e2, _⟩ := hA.h2
 obtain ⟨A3, c3, e3, _⟩ := hA.h3
 obtain ⟨A6, c6, e6, _⟩ := hA.h6
 subst e0 e1 e2 e3 e6
 obtain ⟨us, hC1, hus⟩ := rows_open hF1
 have HA := Aside0.mk hA
 have HC0 := Aside0.mk (Kd.F_now hF0)
 have HC1 := Aside0.mk hC1
 have HUS := Aside0.mk hus
 obtain ⟨ad0, ea0, q0⟩ := Kd.at_string (Kd.F_now hF0) (i : Int) (by omega) (by omega)
 rw [Int.toNat_natCast, show rdOf ByteArray.empty S.stable (i : Int) = S.stable.getD i ⟨#[]⟩ by unfold rdOf; rw [Int.toNat_natCast]; rfl] at q0
 obtain ⟨n0, hn0⟩ : ∃ n0, n0 = S.stable.length := ⟨_, rfl⟩
 obtain ⟨n1, hn1⟩ : ∃ n1, n1 = S.old.length := ⟨_, rfl⟩
 obtain ⟨n2, hn2⟩ : ∃ n2, n2 = S.pend.length := ⟨_, rfl⟩
 obtain ⟨n3, hn3⟩ : ∃ n3, n3 = fl.length := ⟨_, rfl⟩
 obtain ⟨n6, hn6⟩ : ∃ n6, n6 = sv.length := ⟨_, rfl⟩
 obtain ⟨fa, hfa⟩ : ∃ fa, fa = S.failed := ⟨_, rfl⟩
 rw [← hn0] at hl0
 rw [← hn1] at hl1
 rw [← hn0] at HC0
 rw [← hn1] at HC1
 have EQ := Aside0.mk (show n0 = S.stable.length ∧ n1 = S.old.length ∧ n2 = S.pend.length ∧ n3 = fl.length ∧ n6 = sv.length ∧ fa = S.failed from ⟨hn0, hn1, hn2, hn3, hn6, hfa⟩)
 have HOL := Aside0.mk hol
 have HR0 := Aside0.mk hR0
 have hin : i < n0 := by omega
 have hin1 : i < n1 := by omega
 have hinz : (i : Int) < (n0 : Int) := by omega
 have hinz1 : (i : Int) < (n1 : Int) := by omega
 have hnm : n0 ≤ 1155 := by omega
 have hnm1 : n1 ≤ 1155 := by omega
 rw [← hn0, ← hn1, ← hn2, ← hn3, ← hn6, ← hfa] 
 rw [← hn0, ← hn1, ← hn2, ← hn3, ← hn6, ← hfa] at HR0
 subst ea0
 obtain ⟨x, hx⟩ : ∃ x, x = S.stable.getD i ⟨#[]⟩ := ⟨_, rfl⟩
 rw [← hx] at q0
 have HX := Aside0.mk hx
 have hbk := World.block_lt_of_cell? W _ q0
 have hbk0 : ad0.block < W.heap.size := by
  have e : (ad0.add i).block = ad0.block := by unfold Addr.add; split <;> rfl
  rw [e] at hbk; exact hbk
 clear hA hF0 hF1 hC1 hus hR0 hn0 hn1 hn2 hn3 hn6 hfa hol hn ho hi
 unfold changeS
 rw [← hx]
 by_cases hxd : x = d
 ·rw [if_pos hxd]
  have hb : (x.toList == d.toList) = true := bytes_yes hxd
  clear hx hxd hl0 hl1
  go_enter Try.func57, Try.ntmps57
  go_wp2_with fail
  have hx2 : ((W.alloc (.cells #[.slice (some ad0) n0 c0, .slice A1 n1 c1, .slice A2 n2 c2, .slice A3 n3 c3, .bool fa, .int .i64 fu, .slice A6 n6 c6] 31)).alloc (.cells #[.slice (some ad0) n0 c0, .slice A1 n1 c1, .slice A2 n2 c2, .slice A3 n3 c3, .bool fa, .int .i64 fu, .slice A6 n6 c6] 31)).heap[W.heap.size + 1]? = some (.cells #[.slice (some ad0) n0 c0, .slice A1 n1 c1, .slice A2 n2 c2, .slice A3 n3 c3, .bool fa, .int .i64 fu, .slice A6 n6 c6] 31 (0, 0)) := by
   rw [show W.heap.size + 1 = (W.alloc (.cells #[.slice (some ad0) n0 c0, .slice A1 n1 c1, .slice A2 n2 c2, .slice A3 n3 c3, .bool fa, .int .i64 fu, .slice A6 n6 c6] 31)).heap.size by simp]; exact blk_new _ _
  have hb2 : Below W.heap.size W ((W.alloc (.cells #[.slice (some ad0) n0 c0, .slice A1 n1 c1, .slice A2 n2 c2, .slice A3 n3 c3, .bool fa, .int .i64 fu, .slice A6 n6 c6] 31)).alloc (.cells #[.slice (some ad0) n0 c0, .slice A1 n1 c1, .slice A2 n2 c2, .slice A3 n3 c3, .bool fa, .int .i64 fu, .slice A6 n6 c6] 31)) := below_alloc (below_alloc (Below.refl _ _) _) _
  refine bodyPost_ret (results_c rfl _ _ (W.heap.size + 1) 31 #[.slice (some ad0) n0 c0, .slice A1 n1 c1, .slice A2 n2 c2, .slice A3 n3 c3, .bool fa, .int .i64 fu, .slice A6 n6 c6] (0, 0) _ rfl hx2 Try.underlying31 rfl (by kernel_rfl)) rfl ?_
  exact ⟨_, rfl, (HR0.out.below hb2).mono (fun k hk _ => Or.inl hk), hb2⟩
 ·rw [if_neg hxd]
  have hb : (x.toList == d.toList) = false := bytes_no hxd
  clear hx hxd
  go_enter Try.func57, Try.ntmps57
  go_wp2_with (at_builtin; with_reducible refine stopHere ?_)
  obtain ⟨f0, f1, f2, fb⟩ := three W (.cells #[.slice (some ad0) n0 c0, .slice A1 n1 c1, .slice A2 n2 c2, .slice A3 n3 c3, .bool fa, .int .i64 fu, .slice A6 n6 c6] 31) (.cells #[.slice none 0 0, .slice none 0 0, .slice none 0 0, .slice none 0 0, .bool false, .int .i64 0, .slice none 0 0] 31) (.cells #[] 9)
  obtain ⟨w3, hw3⟩ : ∃ w3, w3 = ((W.alloc (.cells #[.slice (some ad0) n0 c0, .slice A1 n1 c1, .slice A2 n2 c2, .slice A3 n3 c3, .bool fa, .int .i64 fu, .slice A6 n6 c6] 31)).alloc (.cells #[.slice none 0 0, .slice none 0 0, .slice none 0 0, .slice none 0 0, .bool false, .int .i64 0, .slice none 0 0] 31)).alloc (.cells #[] 9) := ⟨_, rfl⟩
  rw [← hw3] at f0 f1 f2 fb ⊢
  obtain ⟨bx, hbx⟩ : ∃ bx, bx = W.heap.size := ⟨_, rfl⟩
  obtain ⟨rb, hrb⟩ : ∃ rb, rb = W.heap.size + 1 := ⟨_, rfl⟩
  obtain ⟨e0, he0⟩ : ∃ e0, e0 = W.heap.size + 1 + 1 := ⟨_, rfl⟩
  rw [← he0] at f2 ⊢
  rw [← hrb] at f1 ⊢
  rw [show (Value.pointer (some ⟨W.heap.size, 0, none⟩)) = .pointer (some ⟨bx, 0, none⟩) by rw [hbx]]
  rw [← hbx] at f0
  have LB := Aside0.mk (show W.heap.size ≤ bx ∧ W.heap.size ≤ rb ∧ W.heap.size ≤ e0 ∧ bx ≠ rb ∧ bx ≠ e0 ∧ rb ≠ e0 from ⟨by omega, by omega, by omega, by omega, by omega, by omega⟩)
  clear hw3 hbx hrb he0
  refine ⟨?_⟩
  refine Kd.R_append_rows Kd.string (w0 := W) W.heap.size rfl (.tmp 18) (.tmp 20) 26 9 (.string ⟨#[]⟩) 16 rfl Try.underlying26 info9 rfl (by decide) (by omega) _ [] S.stable (some ad0) n0 c0 (fun k => W.heap.size ≤ k) (fun _ => False) rfl rfl (empty_own' f2 LB.out.2.2.1) (Kd.C_below HC0.out fb) (fun _ _ h => h) (fun _ h => h.elim) (fun k hk => Nat.le_trans fb.size hk) fb fb.size (by simp; omega) ?_
  intro v1 w4 hR1 hb4 hg4 hat4
  rw [List.nil_append] at hR1
  have h0 : 0 < S.stable.length := by have := EQ.out.1; omega
  obtain ⟨g1, cap1, cur1, hv1, hge1, hh1, hle1, hmx1, hcur1⟩ := own_open hR1 h0
  rw [← EQ.out.1] at hv1 hle1
  subst hv1
  have f0 : w4.heap[bx]? = some (.cells #[.slice (some ad0) n0 c0, .slice A1 n1 c1, .slice A2 n2 c2, .slice A3 n3 c3, .bool fa, .int .i64 fu, .slice A6 n6 c6] 31 (0, 0)) := (hg4.block bx (blk_lt f0) (fun e => LB.out.2.2.2.2.1 (Option.some.inj e))).trans f0
  have f1 : w4.heap[rb]? = some (.cells #[.slice none 0 0, .slice none 0 0, .slice none 0 0, .slice none 0 0, .bool false, .int .i64 0, .slice none 0 0] 31 (0, 0)) := (hg4.block rb (blk_lt f1) (fun e => LB.out.2.2.2.2.2 (Option.some.inj e))).trans f1
  obtain ⟨k0, k1, k2, k3, k4, k5, k6⟩ := cells7 f0
  have z0 : w4.frozen? ⟨bx, 0, none⟩ = false := blk_frozen f0 0
  have s1 : w4.cell? ⟨g1, i, none⟩ = some (.string x) := by
   rw [blk_cell hh1]
   exact hcur1 i x (by rw [HX.out, List.getD_eq_getElem?_getD, List.getElem?_eq_getElem (by have := EQ.out.1; omega)]; rfl)
  have z1 : w4.frozen? ⟨g1, i, none⟩ = false := blk_frozen hh1 i
  have ne1 : g1 ≠ bx := blk_ne hh1 f0 (by decide)
  have ne2 : bx ≠ g1 := fun e => ne1 e.symm
  have F0 := Aside0.mk f0
  have F1 := Aside0.mk f1
  have H1 := Aside0.mk hh1
  have HCU1 := Aside0.mk hcur1
  have HB4 := Aside0.mk hb4
  have L1 := Aside0.mk (show W.heap.size ≤ g1 from hge1)
  have hcz1 : (n0 : Int) ≤ (cap1 : Int) := by omega
  have lbx := blk_lt f0
  have lg1 := blk_lt hh1
  clear f0 f1 f2 fb hR1 hb4 hg4 hat4 h0 hge1 hh1 hmx1 hcur1
  go_wp2_with (at_builtin; with_reducible refine stopHere ?_)
  obtain ⟨w5, hw5⟩ : ∃ w5, w5 = (w4.setCell ⟨bx, 0, none⟩ (.slice (some ⟨g1, 0, none⟩) n0 cap1)).setCell ⟨g1, i, none⟩ (.string d) := ⟨_, rfl⟩
  have s5 : w5.heap.size = w4.heap.size := by rw [hw5]; simp [World.setCell]
  have g5 : w5.heap[bx]? = some (.cells #[.slice (some ⟨g1, 0, none⟩) n0 cap1, .slice A1 n1 c1, .slice A2 n2 c2, .slice A3 n3 c3, .bool fa, .int .i64 fu, .slice A6 n6 c6] 31 (0, 0)) := by rw [hw5]; exact (Below.heap_setCell _ _ _ _ ne2).trans (blk_put F0.out 0 _ rfl)
  have g51 : w5.heap[g1]? = some (.cells (cur1.setIfInBounds i (.string d)) 9 (0, 0)) := by rw [hw5]; exact blk_put ((Below.heap_setCell _ _ _ _ ne1).trans H1.out) i _ rfl
  have NR := Aside0.mk (show rb ≠ g1 from fun e => by have h1 := F1.out; rw [e] at h1; have h2 := h1.symm.trans H1.out; cases h2)
  have g5r : w5.heap[rb]? = some (.cells #[.slice none 0 0, .slice none 0 0, .slice none 0 0, .slice none 0 0, .bool false, .int .i64 0, .slice none 0 0] 31 (0, 0)) := by rw [hw5]; exact (Below.heap_setCell _ _ _ _ NR.out).trans ((Below.heap_setCell _ _ _ _ (fun e => LB.out.2.2.2.1 e.symm)).trans F1.out)
  have hb5 : Below W.heap.size W w5 := by rw [hw5]; exact (HB4.out.setCell (p := ⟨bx, 0, none⟩) LB.out.1 _).setCell (p := ⟨g1, i, none⟩) L1.out _
  rw [← hw5, ← s5]
  obtain ⟨w6, hw6⟩ : ∃ w6, w6 = w5.alloc (.cells #[] 26) := ⟨_, rfl⟩
  have hb56 : Below w5.heap.size w5 w6 := by rw [hw6]; exact below_alloc (Below.refl _ _) _
  have g60 : w6.heap[w5.heap.size]? = some (.cells #[] 26 (0, 0)) := by rw [hw6]; exact blk_new _ _
  obtain ⟨e1, he1⟩ : ∃ e1, e1 = w5.heap.size := ⟨_, rfl⟩
  rw [← he1] at g60 ⊢
  rw [← hw6]
  have g6 := blk_below g5 hb56
  have g61 := blk_below g51 hb56
  have g6r := blk_below g5r hb56
  have hb6 := hb5.trans (hb56.mono hb5.size)
  have hle6 : W.heap.size ≤ e1 := by rw [he1]; exact hb5.size
  clear hw5 hw6 s5 g5 g51 g5r hb5 hb56 he1 k0 k1 k2 k3 k4 k5 k6 z0 s1 z1 F0 F1 H1 HB4 lbx lg1
  refine ⟨?_⟩
  refine Kd.R_append_rows kV (w0 := W) W.heap.size rfl (.tmp 28) (.tmp 30) 27 26 (.slice none 0 0) 24 rfl Try.underlying27 info26 rfl (by decide) (by omega) _ [] us A1 n1 c1 (fun k => W.heap.size ≤ k) (fun _ => False) rfl rfl (empty_own' g60 hle6) (Kd.C_below HC1.out hb6) (fun _ _ h => h) (fun _ h => h.elim) (fun k hk => Nat.le_trans hb6.size hk) hb6 hb6.size (by simp; omega) ?_
  intro v2 w7 hR2 hb7 hg7 hat7
  rw [List.nil_append] at hR2
  have hul : us.length = n1 := HC1.out.1
  obtain ⟨g2, cap2, cur2, hv2, hge2, hh2, hle2, hmx2, hcur2⟩ := own_open hR2 (by omega)
  rw [hul] at hv2 hle2
  subst hv2
  have j1 : e1 ≠ bx := blk_ne g60 g6 (by decide)
  have j2 : e1 ≠ g1 := blk_ne g60 g61 (by decide)
  have j3 : e1 ≠ rb := blk_ne g60 g6r (by decide)
  have f7 : w7.heap[bx]? = some (.cells #[.slice (some ⟨g1, 0, none⟩) n0 cap1, .slice A1 n1 c1, .slice A2 n2 c2, .slice A3 n3 c3, .bool fa, .int .i64 fu, .slice A6 n6 c6] 31 (0, 0)) := (hg7.block bx (blk_lt g6) (fun e => j1 (Option.some.inj e).symm)).trans g6
  have f71 : w7.heap[g1]? = some (.cells (cur1.setIfInBounds i (.string d)) 9 (0, 0)) := (hg7.block g1 (blk_lt g61) (fun e => j2 (Option.some.inj e).symm)).trans g61
  have f7r : w7.heap[rb]? = some (.cells #[.slice none 0 0, .slice none 0 0, .slice none 0 0, .slice none 0 0, .bool false, .int .i64 0, .slice none 0 0] 31 (0, 0)) := (hg7.block rb (blk_lt g6r) (fun e => j3 (Option.some.inj e).symm)).trans g6r
  obtain ⟨k0, k1, k2, k3, k4, k5, k6⟩ := cells7 f7
  have z1 : w7.frozen? ⟨bx, 1, none⟩ = false := blk_frozen f7 1
  obtain ⟨y, hy⟩ : ∃ y, y = S.old[i]'(by have := EQ.out.2.1; omega) := ⟨_, rfl⟩
  have hyo : S.old[i]? = some y := by rw [hy]; exact List.getElem?_eq_getElem _
  obtain ⟨ui, hui, Ai, ci, hue, hyl, hyF⟩ := HUS.out i y hyo
  have hy8 : y.length ≤ 8 := by rw [hy]; exact HOL.out _ (List.getElem_mem _)
  have r7 : w7.cell? ⟨g2, i, none⟩ = some (.slice Ai y.length ci) := by rw [blk_cell hh2, hcur2 i ui hui, hue]
  have ne3 : g2 ≠ bx := blk_ne hh2 f7 (by decide)
  have ne4 : bx ≠ g2 := fun e => ne3 e.symm
  have HY := Aside0.mk hyo
  have F7 := Aside0.mk f7
  have F71 := Aside0.mk f71
  have F7R := Aside0.mk f7r
  have H2 := Aside0.mk hh2
  have HCU2 := Aside0.mk hcur2
  have HB7 := Aside0.mk hb7
  have L2 := Aside0.mk (show W.heap.size ≤ g2 from hge2)
  have HYF := Aside0.mk hyF
  have hcz2 : (n1 : Int) ≤ (cap2 : Int) := by omega
  have lbx := blk_lt f7
  have lg2 := blk_lt hh2
  obtain ⟨ny, hny⟩ : ∃ ny, ny = y.length := ⟨_, rfl⟩
  rw [← hny] at r7 hy8
  have HNY := Aside0.mk hny
  clear g60 g6 g61 g6r hb6 hle6 hR2 hb7 hg7 hat7 hge2 hh2 hmx2 hcur2 j1 j2 j3 f7 f71 f7r hul hy hyo hui hue hyl hyF hny
  go_wp2_with (at_builtin; with_reducible refine stopHere ?_)
  obtain ⟨w8, hw8⟩ : ∃ w8, w8 = w7.setCell ⟨bx, 1, none⟩ (.slice (some ⟨g2, 0, none⟩) n1 cap2) := ⟨_, rfl⟩
  have s8 : w8.heap.size = w7.heap.size := by rw [hw8]; simp [World.setCell]
  have hf8 : ∀ k, k ≠ bx → w8.heap[k]? = w7.heap[k]? := fun k hk => by rw [hw8]; exact Below.heap_setCell _ _ _ _ hk
  have g8 : w8.heap[bx]? = some (.cells #[.slice (some ⟨g1, 0, none⟩) n0 cap1, .slice (some ⟨g2, 0, none⟩) n1 cap2, .slice A2 n2 c2, .slice A3 n3 c3, .bool fa, .int .i64 fu, .slice A6 n6 c6] 31 (0, 0)) := by rw [hw8]; exact blk_put F7.out 1 _ rfl
  have g81 := (hf8 g1 ne1).trans F71.out
  have g82 := (hf8 g2 ne3).trans H2.out
  have g8r := (hf8 rb (fun e => LB.out.2.2.2.1 e.symm)).trans F7R.out
  have hb8 : Below W.heap.size W w8 := by rw [hw8]; exact HB7.out.setCell (p := ⟨bx, 1, none⟩) LB.out.1 _
  rw [← hw8, ← s8]
  obtain ⟨w9, hw9⟩ : ∃ w9, w9 = w8.alloc (.cells #[.string x] 9) := ⟨_, rfl⟩
  have hb89 : Below w8.heap.size w8 w9 := by rw [hw9]; exact below_alloc (Below.refl _ _) _
  have g90 : w9.heap[w8.heap.size]? = some (.cells #[.string x] 9 (0, 0)) := by rw [hw9]; exact blk_new _ _
  obtain ⟨e2, he2⟩ : ∃ e2, e2 = w8.heap.size := ⟨_, rfl⟩
  have hle9 : W.heap.size ≤ e2 := by rw [he2]; exact hb8.size
  have j1 : e2 ≠ bx := fun e => by have := blk_lt g8; omega
  have j2 : e2 ≠ g1 := fun e => by have := blk_lt g81; omega
  have j3 : e2 ≠ rb := fun e => by have := blk_lt g8r; omega
  have j4 : e2 ≠ g2 := fun e => by have := blk_lt g82; omega
  rw [← he2] at g90 ⊢
  rw [← hw9]
  have g9 := blk_below g8 hb89
  have g91 := blk_below g81 hb89
  have g92 := blk_below g82 hb89
  have g9r := blk_below g8r hb89
  have hb9 := hb8.trans (hb89.mono hb8.size)
  clear hw8 hw9 s8 g8 g81 g82 g8r hb8 hb89 he2 hf8 k0 k1 k2 k3 k4 k5 k6 z1 r7 F7 F71 F7R H2 HB7 lbx lg2
  refine ⟨?_⟩
  refine Kd.R_append_rows Kd.string (w0 := W) W.heap.size rfl (.tmp 34) (.tmp 39) 26 9 (.string ⟨#[]⟩) 16 rfl Try.underlying26 info9 rfl (by decide) (by omega) _ [x] y Ai ny ci (fun k => W.heap.size ≤ k) (fun _ => False) rfl rfl (one_own g90 hle9) (by rw [HNY.out]; exact Kd.C_below (Kd.F_now HYF.out) hb9) (fun _ _ h => h) (fun _ h => h.elim) (fun k hk => Nat.le_trans hb9.size hk) hb9 hb9.size (by simp; omega) ?_
  intro v4 wA hR4 hbA hgA hatA
  rw [show [x] ++ y = x :: y from rfl] at hR4
  have HR4 := Aside0.mk hR4
  obtain ⟨g4, cap4, cur4, hv4, hge4, hh4, hle4, hmx4, hcur4⟩ := own_open hR4 (by simp)
  have hlen : (x :: y).length = ny + 1 := by rw [HNY.out]; rfl
  rw [hlen] at hv4 hle4
  subst hv4
  have fA : wA.heap[bx]? = some (.cells #[.slice (some ⟨g1, 0, none⟩) n0 cap1, .slice (some ⟨g2, 0, none⟩) n1 cap2, .slice A2 n2 c2, .slice A3 n3 c3, .bool fa, .int .i64 fu, .slice A6 n6 c6] 31 (0, 0)) := (hgA.block bx (blk_lt g9) (fun e => j1 (Option.some.inj e).symm)).trans g9
  have fA1 : wA.heap[g1]? = some (.cells (cur1.setIfInBounds i (.string d)) 9 (0, 0)) := (hgA.block g1 (blk_lt g91) (fun e => j2 (Option.some.inj e).symm)).trans g91
  have fAr : wA.heap[rb]? = some (.cells #[.slice none 0 0, .slice none 0 0, .slice none 0 0, .slice none 0 0, .bool false, .int .i64 0, .slice none 0 0] 31 (0, 0)) := (hgA.block rb (blk_lt g9r) (fun e => j3 (Option.some.inj e).symm)).trans g9r
  have fA2 : wA.heap[g2]? = some (.cells cur2 26 (0, 0)) := (hgA.block g2 (blk_lt g92) (fun e => j4 (Option.some.inj e).symm)).trans g92
  obtain ⟨k0, k1, k2, k3, k4, k5, k6⟩ := cells7 fA
  have rb0 : wA.cell? ⟨rb, 0, none⟩ = some (.slice none 0 0) := by rw [blk_cell fAr]; rfl
  have rz0 : wA.frozen? ⟨rb, 0, none⟩ = false := blk_frozen fAr 0
  have rb1 : wA.cell? ⟨rb, 1, none⟩ = some (.slice none 0 0) := by rw [blk_cell fAr]; rfl
  have rz1 : wA.frozen? ⟨rb, 1, none⟩ = false := blk_frozen fAr 1
  have rb2 : wA.cell? ⟨rb, 2, none⟩ = some (.slice none 0 0) := by rw [blk_cell fAr]; rfl
  have rz2 : wA.frozen? ⟨rb, 2, none⟩ = false := blk_frozen fAr 2
  have rb3 : wA.cell? ⟨rb, 3, none⟩ = some (.slice none 0 0) := by rw [blk_cell fAr]; rfl
  have rz3 : wA.frozen? ⟨rb, 3, none⟩ = false := blk_frozen fAr 3
  have rb4 : wA.cell? ⟨rb, 4, none⟩ = some (.bool false) := by rw [blk_cell fAr]; rfl
  have rz4 : wA.frozen? ⟨rb, 4, none⟩ = false := blk_frozen fAr 4
  have rb5 : wA.cell? ⟨rb, 5, none⟩ = some (.int .i64 0) := by rw [blk_cell fAr]; rfl
  have rz5 : wA.frozen? ⟨rb, 5, none⟩ = false := blk_frozen fAr 5
  have rb6 : wA.cell? ⟨rb, 6, none⟩ = some (.slice none 0 0) := by rw [blk_cell fAr]; rfl
  have rz6 : wA.frozen? ⟨rb, 6, none⟩ = false := blk_frozen fAr 6
  have rA : ∃ u, wA.cell? ⟨g2, i, none⟩ = some u := by
   obtain ⟨ui, hui, _⟩ := HUS.out i y HY.out
   exact ⟨_, by rw [blk_cell fA2]; exact HCU2.out i ui hui⟩
  obtain ⟨uA, rA⟩ := rA
  have zA : wA.frozen? ⟨g2, i, none⟩ = false := blk_frozen fA2 i
  have ne5 : rb ≠ g2 := blk_ne fAr fA2 (by decide)
  have ne6 : g2 ≠ rb := fun e => ne5 e.symm
  have ne7 : bx ≠ rb := LB.out.2.2.2.1
  have ne8 : rb ≠ bx := fun e => ne7 e.symm
  have NE5 := Aside0.mk ne5
  have FA1 := Aside0.mk fA1
  have FA2 := Aside0.mk fA2
  have FAR := Aside0.mk fAr
  have HBA := Aside0.mk hbA
  have HC4 := Aside0.mk hle4
  have hcn1 := Aside0.mk hle1
  have hcn2 := Aside0.mk hle2
  have hcz4 : ((ny : Int) + 1) ≤ (cap4 : Int) := by omega
  clear g90 hle9 j1 j2 j3 j4 g9 g91 g92 g9r hb9 hR4 hbA hgA hatA hge4 hh4 hmx4 hcur4 hlen fA fA1 fAr fA2
  by_cases h8 : 8 < ny + 1
  ·have h8d : decide (8 < (ny : Int) + 1) = true := decide_eq_true (by omega)
   have h8c : 8 ≤ cap4 := by omega
   have h8z : (8 : Int) ≤ (cap4 : Int) := by omega
   go_wp2_with fail
   obtain ⟨wB, hwB⟩ : ∃ wB, wB = wA.setCell ⟨g2, i, none⟩ (.slice (some ⟨g4, 0, none⟩) 8 cap4) := ⟨_, rfl⟩
   have hfB : ∀ k, k ≠ g2 → wB.heap[k]? = wA.heap[k]? := fun k hk => by rw [hwB]; exact Below.heap_setCell _ _ _ _ hk
   have fBr : wB.heap[rb]? = some (.cells #[.slice none 0 0, .slice none 0 0, .slice none 0 0, .slice none 0 0, .bool false, .int .i64 0, .slice none 0 0] 31 (0, 0)) := (hfB rb NE5.out).trans FAR.out
   have hB2 : wB.heap[g2]? = some (.cells (cur2.setIfInBounds i (.slice (some ⟨g4, 0, none⟩) 8 cap4)) 26 (0, 0)) := by rw [hwB]; exact blk_put FA2.out i _ rfl
   have hbB : Below W.heap.size W wB := by rw [hwB]; exact HBA.out.setCell (p := ⟨g2, i, none⟩) L2.out _
   refine bodyPost_ret (results_c rfl _ _ rb 31 #[.slice (some ⟨g1, 0, none⟩) n0 cap1, .slice (some ⟨g2, 0, none⟩) n1 cap2, .slice A2 n2 c2, .slice A3 n3 c3, .bool fa, .int .i64 fu, .slice A6 n6 c6] (0, 0) _ rfl (by rw [← hwB]; exact set7_blk fBr (.slice (some ⟨g1, 0, none⟩) n0 cap1) (.slice (some ⟨g2, 0, none⟩) n1 cap2) (.slice A2 n2 c2) (.slice A3 n3 c3) (.bool fa) (.int .i64 fu) (.slice A6 n6 c6)) Try.underlying31 rfl (by kernel_rfl)) rfl ?_
   rw [← hwB]
   refine ⟨_, rfl, ?_, set7_below hbB LB.out.2.1 (.slice (some ⟨g1, 0, none⟩) n0 cap1) (.slice (some ⟨g2, 0, none⟩) n1 cap2) (.slice A2 n2 c2) (.slice A3 n3 c3) (.bool fa) (.int .i64 fu) (.slice A6 n6 c6)⟩
   have hfar : ∀ k, k ≠ rb → (set7 wB rb (.slice (some ⟨g1, 0, none⟩) n0 cap1) (.slice (some ⟨g2, 0, none⟩) n1 cap2) (.slice A2 n2 c2) (.slice A3 n3 c3) (.bool fa) (.int .i64 fu) (.slice A6 n6 c6)).heap[k]? = wB.heap[k]? := fun k hk => set7_far wB rb (.slice (some ⟨g1, 0, none⟩) n0 cap1) (.slice (some ⟨g2, 0, none⟩) n1 cap2) (.slice A2 n2 c2) (.slice A3 n3 c3) (.bool fa) (.int .i64 fu) (.slice A6 n6 c6) k hk
   show RefIs (set7 wB rb (.slice (some ⟨g1, 0, none⟩) n0 cap1) (.slice (some ⟨g2, 0, none⟩) n1 cap2) (.slice A2 n2 c2) (.slice A3 n3 c3) (.bool fa) (.int .i64 fu) (.slice A6 n6 c6)) _ _ _
   obtain ⟨wC, hwC⟩ : ∃ wC, wC = set7 wB rb (.slice (some ⟨g1, 0, none⟩) n0 cap1) (.slice (some ⟨g2, 0, none⟩) n1 cap2) (.slice A2 n2 c2) (.slice A3 n3 c3) (.bool fa) (.int .i64 fu) (.slice A6 n6 c6) := ⟨_, rfl⟩
   have hbC : Below W.heap.size W wC := by rw [hwC]; exact set7_below hbB LB.out.2.1 (.slice (some ⟨g1, 0, none⟩) n0 cap1) (.slice (some ⟨g2, 0, none⟩) n1 cap2) (.slice A2 n2 c2) (.slice A3 n3 c3) (.bool fa) (.int .i64 fu) (.slice A6 n6 c6)
   rw [← hwC] at hfar ⊢
   have hgne : g1 ≠ rb := fun e => NR.out e.symm
   have hg12 : g1 ≠ g2 := blk_ne FA1.out FA2.out (by decide)
   have h1C : wC.heap[g1]? = some (.cells (cur1.setIfInBounds i (.string d)) 9 (0, 0)) := (hfar g1 hgne).trans ((hfB g1 hg12).trans FA1.out)
   have h2C := (hfar g2 (fun e => NE5.out e.symm)).trans hB2
   have hV5 : Kd.V Kd.string 9 wC 0 (fun k => W.heap.size ≤ k) (.slice (some ⟨g4, 0, none⟩) 8 cap4) ((x :: y).take 8) := by
    have hr := Kd.R_step (Kd.R_types (Kd.R_types HR4.out FA2.out (by decide)) FAR.out (by decide)) (fun k hk _ => (hfar k hk.2).trans (hfB k hk.1.2))
    have hv := Kd.V_mono (Kd.R_V (base' := 0) hr) (fun k hk => hk.1.1)
    exact ⟨_, _, by rw [show ((x :: y).take 8).length = 8 by rw [List.length_take]; have h1 := HNY.out; simp; omega], by rw [show ((x :: y).take 8).length = 8 by rw [List.length_take]; have h1 := HNY.out; simp; omega]; have h2 := HC4.out; omega, Kd.F_take (Kd.V_at hv).2.2 (by have h1 := HNY.out; simp; omega)⟩
   exact rch_end HA.out EQ.out hbC i (by have := EQ.out.1; omega) (by have := EQ.out.2.1; omega) d x y HY.out h1C HCU1.out h2C HCU2.out hV5 HUS.out L1.out L2.out hcn1 hcn2 hnm hnm1
  ·have h8d : decide (8 < (ny : Int) + 1) = false := decide_eq_false (by omega)
   go_wp2_with fail
   obtain ⟨wB, hwB⟩ : ∃ wB, wB = wA.setCell ⟨g2, i, none⟩ (.slice (some ⟨g4, 0, none⟩) (ny + 1) cap4) := ⟨_, rfl⟩
   have hfB : ∀ k, k ≠ g2 → wB.heap[k]? = wA.heap[k]? := fun k hk => by rw [hwB]; exact Below.heap_setCell _ _ _ _ hk
   have fBr : wB.heap[rb]? = some (.cells #[.slice none 0 0, .slice none 0 0, .slice none 0 0, .slice none 0 0, .bool false, .int .i64 0, .slice none 0 0] 31 (0, 0)) := (hfB rb NE5.out).trans FAR.out
   have hB2 : wB.heap[g2]? = some (.cells (cur2.setIfInBounds i (.slice (some ⟨g4, 0, none⟩) (ny + 1) cap4)) 26 (0, 0)) := by rw [hwB]; exact blk_put FA2.out i _ rfl
   have hbB : Below W.heap.size W wB := by rw [hwB]; exact HBA.out.setCell (p := ⟨g2, i, none⟩) L2.out _
   refine bodyPost_ret (results_c rfl _ _ rb 31 #[.slice (some ⟨g1, 0, none⟩) n0 cap1, .slice (some ⟨g2, 0, none⟩) n1 cap2, .slice A2 n2 c2, .slice A3 n3 c3, .bool fa, .int .i64 fu, .slice A6 n6 c6] (0, 0) _ rfl (by rw [← hwB]; exact set7_blk fBr (.slice (some ⟨g1, 0, none⟩) n0 cap1) (.slice (some ⟨g2, 0, none⟩) n1 cap2) (.slice A2 n2 c2) (.slice A3 n3 c3) (.bool fa) (.int .i64 fu) (.slice A6 n6 c6)) Try.underlying31 rfl (by kernel_rfl)) rfl ?_
   rw [← hwB]
   refine ⟨_, rfl, ?_, set7_below hbB LB.out.2.1 (.slice (some ⟨g1, 0, none⟩) n0 cap1) (.slice (some ⟨g2, 0, none⟩) n1 cap2) (.slice A2 n2 c2) (.slice A3 n3 c3) (.bool fa) (.int .i64 fu) (.slice A6 n6 c6)⟩
   have hfar : ∀ k, k ≠ rb → (set7 wB rb (.slice (some ⟨g1, 0, none⟩) n0 cap1) (.slice (some ⟨g2, 0, none⟩) n1 cap2) (.slice A2 n2 c2) (.slice A3 n3 c3) (.bool fa) (.int .i64 fu) (.slice A6 n6 c6)).heap[k]? = wB.heap[k]? := fun k hk => set7_far wB rb (.slice (some ⟨g1, 0, none⟩) n0 cap1) (.slice (some ⟨g2, 0, none⟩) n1 cap2) (.slice A2 n2 c2) (.slice A3 n3 c3) (.bool fa) (.int .i64 fu) (.slice A6 n6 c6) k hk
   show RefIs (set7 wB rb (.slice (some ⟨g1, 0, none⟩) n0 cap1) (.slice (some ⟨g2, 0, none⟩) n1 cap2) (.slice A2 n2 c2) (.slice A3 n3 c3) (.bool fa) (.int .i64 fu) (.slice A6 n6 c6)) _ _ _
   obtain ⟨wC, hwC⟩ : ∃ wC, wC = set7 wB rb (.slice (some ⟨g1, 0, none⟩) n0 cap1) (.slice (some ⟨g2, 0, none⟩) n1 cap2) (.slice A2 n2 c2) (.slice A3 n3 c3) (.bool fa) (.int .i64 fu) (.slice A6 n6 c6) := ⟨_, rfl⟩
   have hbC : Below W.heap.size W wC := by rw [hwC]; exact set7_below hbB LB.out.2.1 (.slice (some ⟨g1, 0, none⟩) n0 cap1) (.slice (some ⟨g2, 0, none⟩) n1 cap2) (.slice A2 n2 c2) (.slice A3 n3 c3) (.bool fa) (.int .i64 fu) (.slice A6 n6 c6)
   rw [← hwC] at hfar ⊢
   have hgne : g1 ≠ rb := fun e => NR.out e.symm
   have hg12 : g1 ≠ g2 := blk_ne FA1.out FA2.out (by decide)
   have h1C : wC.heap[g1]? = some (.cells (cur1.setIfInBounds i (.string d)) 9 (0, 0)) := (hfar g1 hgne).trans ((hfB g1 hg12).trans FA1.out)
   have h2C := (hfar g2 (fun e => NE5.out e.symm)).trans hB2
   have hV5 : Kd.V Kd.string 9 wC 0 (fun k => W.heap.size ≤ k) (.slice (some ⟨g4, 0, none⟩) (ny + 1) cap4) ((x :: y).take 8) := by
    have hr := Kd.R_step (Kd.R_types (Kd.R_types HR4.out FA2.out (by decide)) FAR.out (by decide)) (fun k hk _ => (hfar k hk.2).trans (hfB k hk.1.2))
    have hv := Kd.V_mono (Kd.R_V (base' := 0) hr) (fun k hk => hk.1.1)
    rw [List.take_of_length_le (by have h1 := HNY.out; simp; omega)]
    exact hv
   exact rch_end HA.out EQ.out hbC i (by have := EQ.out.1; omega) (by have := EQ.out.2.1; omega) d x y HY.out h1C HCU1.out h2C HCU2.out hV5 HUS.out L1.out L2.out hcn1 hcn2 hnm hnm1
end Go.Proofs.Ytflajmgichdhhaa.PG
