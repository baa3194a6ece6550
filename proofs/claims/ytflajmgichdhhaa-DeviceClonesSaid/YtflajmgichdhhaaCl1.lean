/- The walks and plain facts behind the row of DeviceClones: part 2 of 4. -/
import Derived.Test.YtflajmgichdhhaaCl0
namespace Go.Proofs.Ytflajmgichdhhaa.PG
open Go.RowKit Go.Proofs.YtflajmgichdhhaaW.PrintWords Go.Proofs.YtflajmgichdhhaaW.PrintLast Go.Proofs.YtflajmgichdhhaaW.PrintMore
set_option linter.unusedVariables false
set_option linter.unusedSimpArgs false
def zeros140 : ByteArray := ⟨(List.replicate 140 0).toArray⟩
def newS (n : Nat) : DevS := ⟨List.replicate n zeros140, List.replicate n [], [], fun _ => none, false, 0, [], false⟩
theorem makeMap77 (w : World) : (Instr.makeMap 77 none).run Try.prog w = .ok (.map (some w.heap.size)) (w.alloc (.map #[] 0)) := by
 simp [Instr.makeMap]
theorem four (W : World) (a b c d : Obj) : ((((W.alloc a).alloc b).alloc c).alloc d).drew.heap[W.heap.size]? = some a ∧ ((((W.alloc a).alloc b).alloc c).alloc d).drew.heap[W.heap.size + 1]? = some b ∧
  ((((W.alloc a).alloc b).alloc c).alloc d).drew.heap[W.heap.size + 1 + 1]? = some c ∧ ((((W.alloc a).alloc b).alloc c).alloc d).drew.heap[W.heap.size + 1 + 1 + 1]? = some d ∧ ((((W.alloc a).alloc b).alloc c).alloc d).drew.heap.size = W.heap.size + 4 ∧
  Below W.heap.size W ((((W.alloc a).alloc b).alloc c).alloc d).drew := by
 have e1 : (W.alloc a).heap.size = W.heap.size + 1 := by simp
 have e2 : ((W.alloc a).alloc b).heap.size = W.heap.size + 1 + 1 := by simp
 have e3 : (((W.alloc a).alloc b).alloc c).heap.size = W.heap.size + 1 + 1 + 1 := by simp
 have n1 := blk_new (W.alloc a) b
 have n2 := blk_new ((W.alloc a).alloc b) c
 have n3 := blk_new (((W.alloc a).alloc b).alloc c) d
 rw [e1] at n1
 rw [e2] at n2
 rw [e3] at n3
 exact ⟨blk_alloc (blk_alloc (blk_alloc (blk_new _ _) _) _) _, blk_alloc (blk_alloc n1 _) _, blk_alloc n2 _, n3, by simp [World.drew], (below_alloc (below_alloc (below_alloc (below_alloc (Below.refl _ _) _) _) _) _).drew⟩
theorem made_strs (n : Nat) : madeCells #[.string ⟨#[]⟩] n = strs (List.replicate n ⟨#[]⟩) := by
 rw [made_one, strs, List.map_replicate]
def nils (n : Nat) : Array Value := (List.replicate n (Value.slice none 0 0)).toArray
theorem made_nils (n : Nat) : madeCells #[.slice none 0 0] n = nils n := made_one _ _
theorem zero_str : strOfNums (List.replicate 140 0) = zeros140 := by
 unfold strOfNums zeros140
 rw [List.map_replicate]
 rfl
theorem made_reads (W : World) : Kd.C (Kd.int .u8) (W.alloc (.cells (madeCells #[.int .u8 0] 140) 5)) (some ⟨W.heap.size, 0, none⟩) 140 (List.replicate 140 0) := by
 refine ⟨by simp, by decide, fun _ => ⟨_, rfl, fun j p hj => ⟨[.int .u8 0], rfl, ?_, fun i u hi => ?_⟩⟩⟩
 ·have := List.getElem?_replicate (a := (0 : Int)) (n := 140) (i := j)
  rw [hj] at this
  split at this
  ·cases this; rfl
  ·cases this
 ·match i with
  | 0 =>
   cases hi
   have e : (⟨W.heap.size, 0, none⟩ : Addr).add (j * (Kd.int .u8).sz + 0) = ⟨W.heap.size, j, none⟩ := by
    show (⟨W.heap.size, 0, none⟩ : Addr).add (j * 1 + 0) = _
    rw [Nat.mul_one, Nat.add_zero, add_plain]
   obtain ⟨hjl, _⟩ := List.getElem?_eq_some_iff.1 hj
   rw [e, blk_cell (blk_new _ _), made_one, List.getElem?_toArray, List.getElem?_replicate, if_pos (by simpa using hjl)]
  | i + 1 => cases hi
theorem newAt {W W4 : World} {n : Nat} {L : Lay} (h1 : 1 ≤ n) (hg : W4.heap[L.g]? = some (.cells (gcells L (.slice none 0 0) (.slice none 0 0) (newS n)) 81 (0, 0))) (hs : W4.heap[L.sb]? = some (.cells (strs (List.replicate n zeros140)) 9 (0, 0)))
    (ho : W4.heap[L.ob]? = some (.cells (nils n) 26 (0, 0))) (hm : W4.heap[L.bm]? = some (.map #[] 0)) (hr : ∀ k, (k = L.g ∨ k = L.sb ∨ k = L.ob ∨ k = L.bm) → W.heap.size ≤ k) :
    DevIs W4 W.heap.size L (fun k => k = L.g ∨ k = L.sb ∨ k = L.ob ∨ k = L.bm) (newS n) :=
  ⟨List.replicate n (.slice none 0 0), .slice none 0 0, .slice none 0 0, [],
    { hg := hg
      hs := hs
      ho := ho
      hvl := by simp [newS]
      hv := fun i v x h1 h2 => by
        have e1 : v = .slice none 0 0 := by
          rw [List.getElem?_replicate] at h1
          split at h1
          · cases h1; rfl
          · cases h1
        have e2 : x = [] := by
          have h2 : (List.replicate n ([] : List ByteArray))[i]? = some x := h2
          rw [List.getElem?_replicate] at h2
          split at h2
          · cases h2; rfl
          · cases h2
        rw [e1, e2]
        exact Kd.V_nil _ _ _ _ _
      hp := Kd.R_nil _ _ _ _ _
      hm := ⟨#[], 0, hm, rfl, List.nodup_nil, MapKept.stamped_empty 0⟩
      hl := fun a => rfl
      hu := Kd.V_nil _ _ _ _ _
      hF := ⟨Or.inl rfl, Or.inr (Or.inl rfl), Or.inr (Or.inr (Or.inl rfl)), Or.inr (Or.inr (Or.inr rfl))⟩
      hr := fun k hk => ⟨hr k hk, by
        rcases hk with e | e | e | e
        · rw [e]; exact blk_lt hg
        · rw [e]; exact blk_lt hs
        · rw [e]; exact blk_lt ho
        · rw [e]; exact (Array.getElem?_eq_some_iff.1 hm).1⟩ }⟩
def NewPost (n : Nat) (W : World) (e : Ending) (W' : World) : Prop := ∃ L F, e = .returned (.tuple #[.pointer (some ⟨L.g, 0, none⟩), .int .i64 0]) ∧ DevIs W' W.heap.size L F (newS n) ∧ Below W.heap.size W W'
set_option maxHeartbeats 2000000 in
set_option maxRecDepth 100000 in
theorem new_calls (W : World) (n : Nat) (h1 : 1 ≤ n) (h2 : n ≤ 1155) :
  Calls Try.prog 17 #[.int .i64 n] W fun e W' => NewPost n W e W' := by
 have hd1 : decide ((n : Int) < 1) = false := decide_eq_false (by omega)
 have hd2 : decide (1155 < (n : Int)) = false := decide_eq_false (by omega)
 have hm1 := print_make_int (P := Try.prog) 26 9 (.string ⟨#[]⟩) 16 Try.underlying26 info9 rfl (by decide) (n : Int) (by omega) (by rw [Int.toNat_natCast]; omega)
 have hm2 := print_make_int (P := Try.prog) 27 26 (.slice none 0 0) 24 Try.underlying27 info26 rfl (by decide) (n : Int) (by omega) (by rw [Int.toNat_natCast]; omega)
 rw [Int.toNat_natCast] at hm1 hm2
 have hk := makeMap77
 have hm3 := print_make_int (P := Try.prog) 87 5 (.int .u8 0) 1 Try.underlying87 (by kernel_rfl) rfl (by decide) (140 : Int) (by omega) (by decide)
 have hcv : ∀ W1 : World, (convert 87 9 (.slice (some ⟨W1.heap.size, 0, none⟩) 140 140)).run Try.prog (W1.alloc (.cells (madeCells #[.int .u8 0] 140) 5)) = .ok (.string zeros140) (W1.alloc (.cells (madeCells #[.int .u8 0] 140) 5)) := fun W1 => by
  have h := Kd.C_string (P := Try.prog) (src := 87) (dst := 9) (c := 140) Try.underlying87 Try.underlying5 Try.underlying9 (made_reads W1)
  rw [zero_str] at h
  exact h
 rw [made_strs] at hm1
 rw [made_nils] at hm2
 have hn1 : (1 : Int) ≤ (n : Int) := by omega
 go_enter Try.func17, Try.ntmps17
 go_wp2_with fail
 go_region
 ·obtain ⟨f0, f1, f2, f3, fs, fb⟩ := four W (.cells (strs (List.replicate n ⟨#[]⟩)) 9) (.cells (nils n) 26) (.map #[] 0) (.cells #[.slice (some ⟨W.heap.size, 0, none⟩) n n, .slice (some ⟨W.heap.size + 1, 0, none⟩) n n, .slice none 0 0, .map (some (W.heap.size + 1 + 1)), .bool false, .int .i64 0, .slice none 0 0, .bool false] 81)
  obtain ⟨W4, hW4⟩ : ∃ W4, W4 = ((((W.alloc (.cells (strs (List.replicate n ⟨#[]⟩)) 9)).alloc (.cells (nils n) 26)).alloc (.map #[] 0)).alloc (.cells #[.slice (some ⟨W.heap.size, 0, none⟩) n n, .slice (some ⟨W.heap.size + 1, 0, none⟩) n n, .slice none 0 0, .map (some (W.heap.size + 1 + 1)), .bool false, .int .i64 0, .slice none 0 0, .bool false] 81)).drew := ⟨_, rfl⟩
  rw [← hW4] at f0 f1 f2 f3 fs fb ⊢
  have HFB := Aside0.mk fb
  obtain ⟨sb, hsb⟩ : ∃ sb, sb = W.heap.size := ⟨_, rfl⟩
  obtain ⟨ob, hob⟩ : ∃ ob, ob = W.heap.size + 1 := ⟨_, rfl⟩
  obtain ⟨bm, hbm⟩ : ∃ bm, bm = W.heap.size + 1 + 1 := ⟨_, rfl⟩
  obtain ⟨g, hg⟩ : ∃ g, g = W.heap.size + 1 + 1 + 1 := ⟨_, rfl⟩
  rw [← hg] at f3 ⊢
  rw [← hbm, ← hob, ← hsb] at f3 ⊢
  rw [← hsb] at f0
  rw [← hob] at f1
  rw [← hbm] at f2
  have FS := Aside0.mk f0
  have FO := Aside0.mk f1
  have FM := Aside0.mk f2
  have FG := Aside0.mk f3
  have HR := Aside0.mk (show ∀ k, (k = g ∨ k = sb ∨ k = ob ∨ k = bm) → W.heap.size ≤ k from fun k hk => by rcases hk with e | e | e | e <;> omega)
  have lg : g < W4.heap.size := blk_lt f3
  have c0 : W4.cell? ⟨g, 0, none⟩ = some (.slice (some ⟨sb, 0, none⟩) n n) := by rw [blk_cell f3]; rfl
  have hsg : sb ≠ g := blk_ne FS.out FG.out (by decide)
  have hso : sb ≠ ob := blk_ne FS.out FO.out (by decide)
  have hsm : sb ≠ bm := fun e => by have h1 := FS.out; rw [e] at h1; have h2 := h1.symm.trans FM.out; cases h2
  have hgs : g ≠ sb := fun e => hsg e.symm
  have HSO := Aside0.mk hso
  have HSM := Aside0.mk hsm
  clear f0 f1 f2 f3 fs fb hsb hob hbm hg hW4 hm1 hm2 hso hsm hk
  go_wp2_with fail
  obtain ⟨W5, hW5⟩ : ∃ W5, W5 = W4.alloc (.cells (madeCells #[.int .u8 0] 140) 5) := ⟨_, rfl⟩
  have HB5 := Aside0.mk (show Below W4.heap.size W4 W5 by rw [hW5]; exact below_alloc (Below.refl _ _) _)
  have c05 : W5.cell? ⟨g, 0, none⟩ = some (.slice (some ⟨sb, 0, none⟩) n n) := (HB5.out.cell (p := ⟨g, 0, none⟩) lg).trans c0
  rw [← hW5]
  have HG5 := Aside0.mk (blk_below FG.out HB5.out)
  have HS5 := Aside0.mk (blk_below FS.out HB5.out)
  clear hW5 hm3 hcv c0
  go_loopg [6, 27] n (fun gg _ s27 wr => ∃ (j : Nat) (l : List ByteArray), s27 = .int .i64 j ∧ j ≤ n ∧ n - j ≤ gg ∧ Aside0 (l.length = n) ∧ Aside0 (∀ i, i < j → l[i]? = some zeros140) ∧ Aside0 (wr.heap[sb]? = some (.cells (strs l) 9 (0, 0))) ∧ Aside0 (Kept W4 wr (fun k => k = sb)) ∧ Aside0 (Below W.heap.size W wr))
  case atStart => exact ⟨0, List.replicate n ⟨#[]⟩, by go_num, Nat.zero_le _, by omega, ⟨by simp⟩, ⟨fun i hi => by omega⟩, HS5, ⟨Kept.of_below HB5.out _⟩, ⟨below_step HFB.out HB5.out⟩⟩
  case round =>
   obtain ⟨j, l, rfl, hj, hgg, HLL, HLI, HXR, HKR, HBR⟩ := hrel
   have hgr := blk_kept FG.out HKR.out hgs
   have cg : wr.cell? ⟨g, 0, none⟩ = some (.slice (some ⟨sb, 0, none⟩) n n) := by rw [blk_cell hgr]; rfl
   have HGR := Aside0.mk hgr
   clear hgr
   by_cases hlt : j < n
   ·have hltz : (j : Int) < (n : Int) := by omega
    have cj : wr.cell? ⟨sb, j, none⟩ = some (.string (l[j]'(by have := HLL.out; omega))) := by rw [blk_cell HXR.out]; exact strs_at l j (by have := HLL.out; omega)
    have fj : wr.frozen? ⟨sb, j, none⟩ = false := blk_frozen HXR.out j
    go_wp2_with fail
    go_roundg (n - (j + 1))
    case measure => omega
    case rel =>
     refine ⟨j + 1, l.set j zeros140, by go_num, by omega, Nat.le_refl _, ⟨by rw [List.length_set]; exact HLL.out⟩, ⟨fun i hi => ?_⟩, ⟨blk_put HXR.out j _ (strs_set _ _ _)⟩, ⟨HKR.out.setCell (Or.inl rfl) _⟩, ⟨HBR.out.setCell (HR.out sb (Or.inr (Or.inl rfl))) _⟩⟩
     have := HLL.out
     rw [List.getElem?_set]
     by_cases e : j = i
     ·rw [if_pos e, if_pos (by omega)]
     ·rw [if_neg e]; exact HLI.out i (by omega)
   ·obtain rfl : j = n := by omega
    have hleq : l = List.replicate j zeros140 := by
     apply List.ext_getElem?
     intro i
     rw [List.getElem?_replicate]
     by_cases hi : i < j
     ·rw [if_pos hi]; exact HLI.out i hi
     ·rw [if_neg hi]; exact List.getElem?_eq_none (by have := HLL.out; omega)
    have hdev := newAt (W := W) (W4 := wr) (n := j) (L := ⟨g, sb, ob, bm⟩) h1 (HGR.out.trans (by unfold gcells newS; simp only [List.length_replicate])) (by rw [← hleq]; exact HXR.out) (blk_kept FO.out HKR.out (fun e => HSO.out e.symm)) ((HKR.out.2 bm (Array.getElem?_eq_some_iff.1 FM.out).1 (fun e => HSM.out e.symm)).trans FM.out) HR.out
    have HDEV := Aside0.mk hdev
    clear hleq hdev
    go_wp2_with fail
    go_ret2
    exact ⟨⟨g, sb, ob, bm⟩, _, rfl, HDEV.out, HBR.out⟩
 ·obtain ⟨f0, f1, f2, f3, fs, fb⟩ := four W (.cells (strs (List.replicate n ⟨#[]⟩)) 9) (.map #[] 0) (.cells (nils n) 26) (.cells #[.slice (some ⟨W.heap.size, 0, none⟩) n n, .slice (some ⟨W.heap.size + 1 + 1, 0, none⟩) n n, .slice none 0 0, .map (some (W.heap.size + 1)), .bool false, .int .i64 0, .slice none 0 0, .bool false] 81)
  obtain ⟨W4, hW4⟩ : ∃ W4, W4 = ((((W.alloc (.cells (strs (List.replicate n ⟨#[]⟩)) 9)).alloc (.map #[] 0)).alloc (.cells (nils n) 26)).alloc (.cells #[.slice (some ⟨W.heap.size, 0, none⟩) n n, .slice (some ⟨W.heap.size + 1 + 1, 0, none⟩) n n, .slice none 0 0, .map (some (W.heap.size + 1)), .bool false, .int .i64 0, .slice none 0 0, .bool false] 81)).drew := ⟨_, rfl⟩
  rw [← hW4] at f0 f1 f2 f3 fs fb ⊢
  have HFB := Aside0.mk fb
  obtain ⟨sb, hsb⟩ : ∃ sb, sb = W.heap.size := ⟨_, rfl⟩
  obtain ⟨ob, hob⟩ : ∃ ob, ob = W.heap.size + 1 + 1 := ⟨_, rfl⟩
  obtain ⟨bm, hbm⟩ : ∃ bm, bm = W.heap.size + 1 := ⟨_, rfl⟩
  obtain ⟨g, hg⟩ : ∃ g, g = W.heap.size + 1 + 1 + 1 := ⟨_, rfl⟩
  rw [← hg] at f3 ⊢
  rw [← hob, ← hbm, ← hsb] at f3 ⊢
  rw [← hsb] at f0
  rw [← hob] at f2
  rw [← hbm] at f1
  have FS := Aside0.mk f0
  have FO := Aside0.mk f2
  have FM := Aside0.mk f1
  have FG := Aside0.mk f3
  have HR := Aside0.mk (show ∀ k, (k = g ∨ k = sb ∨ k = ob ∨ k = bm) → W.heap.size ≤ k from fun k hk => by rcases hk with e | e | e | e <;> omega)
  have lg : g < W4.heap.size := blk_lt f3
  have c0 : W4.cell? ⟨g, 0, none⟩ = some (.slice (some ⟨sb, 0, none⟩) n n) := by rw [blk_cell f3]; rfl
  have hsg : sb ≠ g := blk_ne FS.out FG.out (by decide)
  have hso : sb ≠ ob := blk_ne FS.out FO.out (by decide)
  have hsm : sb ≠ bm := fun e => by have h1 := FS.out; rw [e] at h1; have h2 := h1.symm.trans FM.out; cases h2
  have hgs : g ≠ sb := fun e => hsg e.symm
  have HSO := Aside0.mk hso
  have HSM := Aside0.mk hsm
  clear f0 f1 f2 f3 fs fb hsb hob hbm hg hW4 hm1 hm2 hso hsm hk
  go_wp2_with fail
  obtain ⟨W5, hW5⟩ : ∃ W5, W5 = W4.alloc (.cells (madeCells #[.int .u8 0] 140) 5) := ⟨_, rfl⟩
  have HB5 := Aside0.mk (show Below W4.heap.size W4 W5 by rw [hW5]; exact below_alloc (Below.refl _ _) _)
  have c05 : W5.cell? ⟨g, 0, none⟩ = some (.slice (some ⟨sb, 0, none⟩) n n) := (HB5.out.cell (p := ⟨g, 0, none⟩) lg).trans c0
  rw [← hW5]
  have HG5 := Aside0.mk (blk_below FG.out HB5.out)
  have HS5 := Aside0.mk (blk_below FS.out HB5.out)
  clear hW5 hm3 hcv c0
  go_loopg [6, 27] n (fun gg _ s27 wr => ∃ (j : Nat) (l : List ByteArray), s27 = .int .i64 j ∧ j ≤ n ∧ n - j ≤ gg ∧ Aside0 (l.length = n) ∧ Aside0 (∀ i, i < j → l[i]? = some zeros140) ∧ Aside0 (wr.heap[sb]? = some (.cells (strs l) 9 (0, 0))) ∧ Aside0 (Kept W4 wr (fun k => k = sb)) ∧ Aside0 (Below W.heap.size W wr))
  case atStart => exact ⟨0, List.replicate n ⟨#[]⟩, by go_num, Nat.zero_le _, by omega, ⟨by simp⟩, ⟨fun i hi => by omega⟩, HS5, ⟨Kept.of_below HB5.out _⟩, ⟨below_step HFB.out HB5.out⟩⟩
  case round =>
   obtain ⟨j, l, rfl, hj, hgg, HLL, HLI, HXR, HKR, HBR⟩ := hrel
   have hgr := blk_kept FG.out HKR.out hgs
   have cg : wr.cell? ⟨g, 0, none⟩ = some (.slice (some ⟨sb, 0, none⟩) n n) := by rw [blk_cell hgr]; rfl
   have HGR := Aside0.mk hgr
   clear hgr
   by_cases hlt : j < n
   ·have hltz : (j : Int) < (n : Int) := by omega
    have cj : wr.cell? ⟨sb, j, none⟩ = some (.string (l[j]'(by have := HLL.out; omega))) := by rw [blk_cell HXR.out]; exact strs_at l j (by have := HLL.out; omega)
    have fj : wr.frozen? ⟨sb, j, none⟩ = false := blk_frozen HXR.out j
    go_wp2_with fail
    go_roundg (n - (j + 1))
    case measure => omega
    case rel =>
     refine ⟨j + 1, l.set j zeros140, by go_num, by omega, Nat.le_refl _, ⟨by rw [List.length_set]; exact HLL.out⟩, ⟨fun i hi => ?_⟩, ⟨blk_put HXR.out j _ (strs_set _ _ _)⟩, ⟨HKR.out.setCell (Or.inl rfl) _⟩, ⟨HBR.out.setCell (HR.out sb (Or.inr (Or.inl rfl))) _⟩⟩
     have := HLL.out
     rw [List.getElem?_set]
     by_cases e : j = i
     ·rw [if_pos e, if_pos (by omega)]
     ·rw [if_neg e]; exact HLI.out i (by omega)
   ·obtain rfl : j = n := by omega
    have hleq : l = List.replicate j zeros140 := by
     apply List.ext_getElem?
     intro i
     rw [List.getElem?_replicate]
     by_cases hi : i < j
     ·rw [if_pos hi]; exact HLI.out i hi
     ·rw [if_neg hi]; exact List.getElem?_eq_none (by have := HLL.out; omega)
    have hdev := newAt (W := W) (W4 := wr) (n := j) (L := ⟨g, sb, ob, bm⟩) h1 (HGR.out.trans (by unfold gcells newS; simp only [List.length_replicate])) (by rw [← hleq]; exact HXR.out) (blk_kept FO.out HKR.out (fun e => HSO.out e.symm)) ((HKR.out.2 bm (Array.getElem?_eq_some_iff.1 FM.out).1 (fun e => HSM.out e.symm)).trans FM.out) HR.out
    have HDEV := Aside0.mk hdev
    clear hleq hdev
    go_wp2_with fail
    go_ret2
    exact ⟨⟨g, sb, ob, bm⟩, _, rfl, HDEV.out, HBR.out⟩
 ·obtain ⟨f0, f1, f2, f3, fs, fb⟩ := four W (.cells (nils n) 26) (.cells (strs (List.replicate n ⟨#[]⟩)) 9) (.map #[] 0) (.cells #[.slice (some ⟨W.heap.size + 1, 0, none⟩) n n, .slice (some ⟨W.heap.size, 0, none⟩) n n, .slice none 0 0, .map (some (W.heap.size + 1 + 1)), .bool false, .int .i64 0, .slice none 0 0, .bool false] 81)
  obtain ⟨W4, hW4⟩ : ∃ W4, W4 = ((((W.alloc (.cells (nils n) 26)).alloc (.cells (strs (List.replicate n ⟨#[]⟩)) 9)).alloc (.map #[] 0)).alloc (.cells #[.slice (some ⟨W.heap.size + 1, 0, none⟩) n n, .slice (some ⟨W.heap.size, 0, none⟩) n n, .slice none 0 0, .map (some (W.heap.size + 1 + 1)), .bool false, .int .i64 0, .slice none 0 0, .bool false] 81)).drew := ⟨_, rfl⟩
  rw [← hW4] at f0 f1 f2 f3 fs fb ⊢
  have HFB := Aside0.mk fb
  obtain ⟨sb, hsb⟩ : ∃ sb, sb = W.heap.size + 1 := ⟨_, rfl⟩
  obtain ⟨ob, hob⟩ : ∃ ob, ob = W.heap.size := ⟨_, rfl⟩
  obtain ⟨bm, hbm⟩ : ∃ bm, bm = W.heap.size + 1 + 1 := ⟨_, rfl⟩
  obtain ⟨g, hg⟩ : ∃ g, g = W.heap.size + 1 + 1 + 1 := ⟨_, rfl⟩
  rw [← hg] at f3 ⊢
  rw [← hbm, ← hsb, ← hob] at f3 ⊢
  rw [← hsb] at f1
  rw [← hob] at f0
  rw [← hbm] at f2
  have FS := Aside0.mk f1
  have FO := Aside0.mk f0
  have FM := Aside0.mk f2
  have FG := Aside0.mk f3
  have HR := Aside0.mk (show ∀ k, (k = g ∨ k = sb ∨ k = ob ∨ k = bm) → W.heap.size ≤ k from fun k hk => by rcases hk with e | e | e | e <;> omega)
  have lg : g < W4.heap.size := blk_lt f3
  have c0 : W4.cell? ⟨g, 0, none⟩ = some (.slice (some ⟨sb, 0, none⟩) n n) := by rw [blk_cell f3]; rfl
  have hsg : sb ≠ g := blk_ne FS.out FG.out (by decide)
  have hso : sb ≠ ob := blk_ne FS.out FO.out (by decide)
  have hsm : sb ≠ bm := fun e => by have h1 := FS.out; rw [e] at h1; have h2 := h1.symm.trans FM.out; cases h2
  have hgs : g ≠ sb := fun e => hsg e.symm
  have HSO := Aside0.mk hso
  have HSM := Aside0.mk hsm
  clear f0 f1 f2 f3 fs fb hsb hob hbm hg hW4 hm1 hm2 hso hsm hk
  go_wp2_with fail
  obtain ⟨W5, hW5⟩ : ∃ W5, W5 = W4.alloc (.cells (madeCells #[.int .u8 0] 140) 5) := ⟨_, rfl⟩
  have HB5 := Aside0.mk (show Below W4.heap.size W4 W5 by rw [hW5]; exact below_alloc (Below.refl _ _) _)
  have c05 : W5.cell? ⟨g, 0, none⟩ = some (.slice (some ⟨sb, 0, none⟩) n n) := (HB5.out.cell (p := ⟨g, 0, none⟩) lg).trans c0
  rw [← hW5]
  have HG5 := Aside0.mk (blk_below FG.out HB5.out)
  have HS5 := Aside0.mk (blk_below FS.out HB5.out)
  clear hW5 hm3 hcv c0
  go_loopg [6, 27] n (fun gg _ s27 wr => ∃ (j : Nat) (l : List ByteArray), s27 = .int .i64 j ∧ j ≤ n ∧ n - j ≤ gg ∧ Aside0 (l.length = n) ∧ Aside0 (∀ i, i < j → l[i]? = some zeros140) ∧ Aside0 (wr.heap[sb]? = some (.cells (strs l) 9 (0, 0))) ∧ Aside0 (Kept W4 wr (fun k => k = sb)) ∧ Aside0 (Below W.heap.size W wr))
  case atStart => exact ⟨0, List.replicate n ⟨#[]⟩, by go_num, Nat.zero_le _, by omega, ⟨by simp⟩, ⟨fun i hi => by omega⟩, HS5, ⟨Kept.of_below HB5.out _⟩, ⟨below_step HFB.out HB5.out⟩⟩
  case round =>
   obtain ⟨j, l, rfl, hj, hgg, HLL, HLI, HXR, HKR, HBR⟩ := hrel
   have hgr := blk_kept FG.out HKR.out hgs
   have cg : wr.cell? ⟨g, 0, none⟩ = some (.slice (some ⟨sb, 0, none⟩) n n) := by rw [blk_cell hgr]; rfl
   have HGR := Aside0.mk hgr
   clear hgr
   by_cases hlt : j < n
   ·have hltz : (j : Int) < (n : Int) := by omega
    have cj : wr.cell? ⟨sb, j, none⟩ = some (.string (l[j]'(by have := HLL.out; omega))) := by rw [blk_cell HXR.out]; exact strs_at l j (by have := HLL.out; omega)
    have fj : wr.frozen? ⟨sb, j, none⟩ = false := blk_frozen HXR.out j
    go_wp2_with fail
    go_roundg (n - (j + 1))
    case measure => omega
    case rel =>
     refine ⟨j + 1, l.set j zeros140, by go_num, by omega, Nat.le_refl _, ⟨by rw [List.length_set]; exact HLL.out⟩, ⟨fun i hi => ?_⟩, ⟨blk_put HXR.out j _ (strs_set _ _ _)⟩, ⟨HKR.out.setCell (Or.inl rfl) _⟩, ⟨HBR.out.setCell (HR.out sb (Or.inr (Or.inl rfl))) _⟩⟩
     have := HLL.out
     rw [List.getElem?_set]
     by_cases e : j = i
     ·rw [if_pos e, if_pos (by omega)]
     ·rw [if_neg e]; exact HLI.out i (by omega)
   ·obtain rfl : j = n := by omega
    have hleq : l = List.replicate j zeros140 := by
     apply List.ext_getElem?
     intro i
     rw [List.getElem?_replicate]
     by_cases hi : i < j
     ·rw [if_pos hi]; exact HLI.out i hi
     ·rw [if_neg hi]; exact List.getElem?_eq_none (by have := HLL.out; omega)
    have hdev := newAt (W := W) (W4 := wr) (n := j) (L := ⟨g, sb, ob, bm⟩) h1 (HGR.out.trans (by unfold gcells newS; simp only [List.length_replicate])) (by rw [← hleq]; exact HXR.out) (blk_kept FO.out HKR.out (fun e => HSO.out e.symm)) ((HKR.out.2 bm (Array.getElem?_eq_some_iff.1 FM.out).1 (fun e => HSM.out e.symm)).trans FM.out) HR.out
    have HDEV := Aside0.mk hdev
    clear hleq hdev
    go_wp2_with fail
    go_ret2
    exact ⟨⟨g, sb, ob, bm⟩, _, rfl, HDEV.out, HBR.out⟩
 ·obtain ⟨f0, f1, f2, f3, fs, fb⟩ := four W (.cells (nils n) 26) (.map #[] 0) (.cells (strs (List.replicate n ⟨#[]⟩)) 9) (.cells #[.slice (some ⟨W.heap.size + 1 + 1, 0, none⟩) n n, .slice (some ⟨W.heap.size, 0, none⟩) n n, .slice none 0 0, .map (some (W.heap.size + 1)), .bool false, .int .i64 0, .slice none 0 0, .bool false] 81)
  obtain ⟨W4, hW4⟩ : ∃ W4, W4 = ((((W.alloc (.cells (nils n) 26)).alloc (.map #[] 0)).alloc (.cells (strs (List.replicate n ⟨#[]⟩)) 9)).alloc (.cells #[.slice (some ⟨W.heap.size + 1 + 1, 0, none⟩) n n, .slice (some ⟨W.heap.size, 0, none⟩) n n, .slice none 0 0, .map (some (W.heap.size + 1)), .bool false, .int .i64 0, .slice none 0 0, .bool false] 81)).drew := ⟨_, rfl⟩
  rw [← hW4] at f0 f1 f2 f3 fs fb ⊢
  have HFB := Aside0.mk fb
  obtain ⟨sb, hsb⟩ : ∃ sb, sb = W.heap.size + 1 + 1 := ⟨_, rfl⟩
  obtain ⟨ob, hob⟩ : ∃ ob, ob = W.heap.size := ⟨_, rfl⟩
  obtain ⟨bm, hbm⟩ : ∃ bm, bm = W.heap.size + 1 := ⟨_, rfl⟩
  obtain ⟨g, hg⟩ : ∃ g, g = W.heap.size + 1 + 1 + 1 := ⟨_, rfl⟩
  rw [← hg] at f3 ⊢
  rw [← hsb, ← hbm, ← hob] at f3 ⊢
  rw [← hsb] at f2
  rw [← hob] at f0
  rw [← hbm] at f1
  have FS := Aside0.mk f2
  have FO := Aside0.mk f0
  have FM := Aside0.mk f1
  have FG := Aside0.mk f3
  have HR := Aside0.mk (show ∀ k, (k = g ∨ k = sb ∨ k = ob ∨ k = bm) → W.heap.size ≤ k from fun k hk => by rcases hk with e | e | e | e <;> omega)
  have lg : g < W4.heap.size := blk_lt f3
  have c0 : W4.cell? ⟨g, 0, none⟩ = some (.slice (some ⟨sb, 0, none⟩) n n) := by rw [blk_cell f3]; rfl
  have hsg : sb ≠ g := blk_ne FS.out FG.out (by decide)
  have hso : sb ≠ ob := blk_ne FS.out FO.out (by decide)
  have hsm : sb ≠ bm := fun e => by have h1 := FS.out; rw [e] at h1; have h2 := h1.symm.trans FM.out; cases h2
  have hgs : g ≠ sb := fun e => hsg e.symm
  have HSO := Aside0.mk hso
  have HSM := Aside0.mk hsm
  clear f0 f1 f2 f3 fs fb hsb hob hbm hg hW4 hm1 hm2 hso hsm hk
  go_wp2_with fail
  obtain ⟨W5, hW5⟩ : ∃ W5, W5 = W4.alloc (.cells (madeCells #[.int .u8 0] 140) 5) := ⟨_, rfl⟩
  have HB5 := Aside0.mk (show Below W4.heap.size W4 W5 by rw [hW5]; exact below_alloc (Below.refl _ _) _)
  have c05 : W5.cell? ⟨g, 0, none⟩ = some (.slice (some ⟨sb, 0, none⟩) n n) := (HB5.out.cell (p := ⟨g, 0, none⟩) lg).trans c0
  rw [← hW5]
  have HG5 := Aside0.mk (blk_below FG.out HB5.out)
  have HS5 := Aside0.mk (blk_below FS.out HB5.out)
  clear hW5 hm3 hcv c0
  go_loopg [6, 27] n (fun gg _ s27 wr => ∃ (j : Nat) (l : List ByteArray), s27 = .int .i64 j ∧ j ≤ n ∧ n - j ≤ gg ∧ Aside0 (l.length = n) ∧ Aside0 (∀ i, i < j → l[i]? = some zeros140) ∧ Aside0 (wr.heap[sb]? = some (.cells (strs l) 9 (0, 0))) ∧ Aside0 (Kept W4 wr (fun k => k = sb)) ∧ Aside0 (Below W.heap.size W wr))
  case atStart => exact ⟨0, List.replicate n ⟨#[]⟩, by go_num, Nat.zero_le _, by omega, ⟨by simp⟩, ⟨fun i hi => by omega⟩, HS5, ⟨Kept.of_below HB5.out _⟩, ⟨below_step HFB.out HB5.out⟩⟩
  case round =>
   obtain ⟨j, l, rfl, hj, hgg, HLL, HLI, HXR, HKR, HBR⟩ := hrel
   have hgr := blk_kept FG.out HKR.out hgs
   have cg : wr.cell? ⟨g, 0, none⟩ = some (.slice (some ⟨sb, 0, none⟩) n n) := by rw [blk_cell hgr]; rfl
   have HGR := Aside0.mk hgr
   clear hgr
   by_cases hlt : j < n
   ·have hltz : (j : Int) < (n : Int) := by omega
    have cj : wr.cell? ⟨sb, j, none⟩ = some (.string (l[j]'(by have := HLL.out; omega))) := by rw [blk_cell HXR.out]; exact strs_at l j (by have := HLL.out; omega)
    have fj : wr.frozen? ⟨sb, j, none⟩ = false := blk_frozen HXR.out j
    go_wp2_with fail
    go_roundg (n - (j + 1))
    case measure => omega
    case rel =>
     refine ⟨j + 1, l.set j zeros140, by go_num, by omega, Nat.le_refl _, ⟨by rw [List.length_set]; exact HLL.out⟩, ⟨fun i hi => ?_⟩, ⟨blk_put HXR.out j _ (strs_set _ _ _)⟩, ⟨HKR.out.setCell (Or.inl rfl) _⟩, ⟨HBR.out.setCell (HR.out sb (Or.inr (Or.inl rfl))) _⟩⟩
     have := HLL.out
     rw [List.getElem?_set]
     by_cases e : j = i
     ·rw [if_pos e, if_pos (by omega)]
     ·rw [if_neg e]; exact HLI.out i (by omega)
   ·obtain rfl : j = n := by omega
    have hleq : l = List.replicate j zeros140 := by
     apply List.ext_getElem?
     intro i
     rw [List.getElem?_replicate]
     by_cases hi : i < j
     ·rw [if_pos hi]; exact HLI.out i hi
     ·rw [if_neg hi]; exact List.getElem?_eq_none (by have := HLL.out; omega)
    have hdev := newAt (W := W) (W4 := wr) (n := j) (L := ⟨g, sb, ob, bm⟩) h1 (HGR.out.trans (by unfold gcells newS; simp only [List.length_replicate])) (by rw [← hleq]; exact HXR.out) (blk_kept FO.out HKR.out (fun e => HSO.out e.symm)) ((HKR.out.2 bm (Array.getElem?_eq_some_iff.1 FM.out).1 (fun e => HSM.out e.symm)).trans FM.out) HR.out
    have HDEV := Aside0.mk hdev
    clear hleq hdev
    go_wp2_with fail
    go_ret2
    exact ⟨⟨g, sb, ob, bm⟩, _, rfl, HDEV.out, HBR.out⟩
 ·obtain ⟨f0, f1, f2, f3, fs, fb⟩ := four W (.map #[] 0) (.cells (strs (List.replicate n ⟨#[]⟩)) 9) (.cells (nils n) 26) (.cells #[.slice (some ⟨W.heap.size + 1, 0, none⟩) n n, .slice (some ⟨W.heap.size + 1 + 1, 0, none⟩) n n, .slice none 0 0, .map (some (W.heap.size)), .bool false, .int .i64 0, .slice none 0 0, .bool false] 81)
  obtain ⟨W4, hW4⟩ : ∃ W4, W4 = ((((W.alloc (.map #[] 0)).alloc (.cells (strs (List.replicate n ⟨#[]⟩)) 9)).alloc (.cells (nils n) 26)).alloc (.cells #[.slice (some ⟨W.heap.size + 1, 0, none⟩) n n, .slice (some ⟨W.heap.size + 1 + 1, 0, none⟩) n n, .slice none 0 0, .map (some (W.heap.size)), .bool false, .int .i64 0, .slice none 0 0, .bool false] 81)).drew := ⟨_, rfl⟩
  rw [← hW4] at f0 f1 f2 f3 fs fb ⊢
  have HFB := Aside0.mk fb
  obtain ⟨sb, hsb⟩ : ∃ sb, sb = W.heap.size + 1 := ⟨_, rfl⟩
  obtain ⟨ob, hob⟩ : ∃ ob, ob = W.heap.size + 1 + 1 := ⟨_, rfl⟩
  obtain ⟨bm, hbm⟩ : ∃ bm, bm = W.heap.size := ⟨_, rfl⟩
  obtain ⟨g, hg⟩ : ∃ g, g = W.heap.size + 1 + 1 + 1 := ⟨_, rfl⟩
  rw [← hg] at f3 ⊢
  rw [← hob, ← hsb, ← hbm] at f3 ⊢
  rw [← hsb] at f1
  rw [← hob] at f2
  rw [← hbm] at f0
  have FS := Aside0.mk f1
  have FO := Aside0.mk f2
  have FM := Aside0.mk f0
  have FG := Aside0.mk f3
  have HR := Aside0.mk (show ∀ k, (k = g ∨ k = sb ∨ k = ob ∨ k = bm) → W.heap.size ≤ k from fun k hk => by rcases hk with e | e | e | e <;> omega)
  have lg : g < W4.heap.size := blk_lt f3
  have c0 : W4.cell? ⟨g, 0, none⟩ = some (.slice (some ⟨sb, 0, none⟩) n n) := by rw [blk_cell f3]; rfl
  have hsg : sb ≠ g := blk_ne FS.out FG.out (by decide)
  have hso : sb ≠ ob := blk_ne FS.out FO.out (by decide)
  have hsm : sb ≠ bm := fun e => by have h1 := FS.out; rw [e] at h1; have h2 := h1.symm.trans FM.out; cases h2
  have hgs : g ≠ sb := fun e => hsg e.symm
  have HSO := Aside0.mk hso
  have HSM := Aside0.mk hsm
  clear f0 f1 f2 f3 fs fb hsb hob hbm hg hW4 hm1 hm2 hso hsm hk
  go_wp2_with fail
  obtain ⟨W5, hW5⟩ : ∃ W5, W5 = W4.alloc (.cells (madeCells #[.int .u8 0] 140) 5) := ⟨_, rfl⟩
  have HB5 := Aside0.mk (show Below W4.heap.size W4 W5 by rw [hW5]; exact below_alloc (Below.refl _ _) _)
  have c05 : W5.cell? ⟨g, 0, none⟩ = some (.slice (some ⟨sb, 0, none⟩) n n) := (HB5.out.cell (p := ⟨g, 0, none⟩) lg).trans c0
  rw [← hW5]
  have HG5 := Aside0.mk (blk_below FG.out HB5.out)
  have HS5 := Aside0.mk (blk_below FS.out HB5.out)
  clear hW5 hm3 hcv c0
  go_loopg [6, 27] n (fun gg _ s27 wr => ∃ (j : Nat) (l : List ByteArray), s27 = .int .i64 j ∧ j ≤ n ∧ n - j ≤ gg ∧ Aside0 (l.length = n) ∧ Aside0 (∀ i, i < j → l[i]? = some zeros140) ∧ Aside0 (wr.heap[sb]? = some (.cells (strs l) 9 (0, 0))) ∧ Aside0 (Kept W4 wr (fun k => k = sb)) ∧ Aside0 (Below W.heap.size W wr))
  case atStart => exact ⟨0, List.replicate n ⟨#[]⟩, by go_num, Nat.zero_le _, by omega, ⟨by simp⟩, ⟨fun i hi => by omega⟩, HS5, ⟨Kept.of_below HB5.out _⟩, ⟨below_step HFB.out HB5.out⟩⟩
  case round =>
   obtain ⟨j, l, rfl, hj, hgg, HLL, HLI, HXR, HKR, HBR⟩ := hrel
   have hgr := blk_kept FG.out HKR.out hgs
   have cg : wr.cell? ⟨g, 0, none⟩ = some (.slice (some ⟨sb, 0, none⟩) n n) := by rw [blk_cell hgr]; rfl
   have HGR := Aside0.mk hgr
   clear hgr
   by_cases hlt : j < n
   ·have hltz : (j : Int) < (n : Int) := by omega
    have cj : wr.cell? ⟨sb, j, none⟩ = some (.string (l[j]'(by have := HLL.out; omega))) := by rw [blk_cell HXR.out]; exact strs_at l j (by have := HLL.out; omega)
    have fj : wr.frozen? ⟨sb, j, none⟩ = false := blk_frozen HXR.out j
    go_wp2_with fail
    go_roundg (n - (j + 1))
    case measure => omega
    case rel =>
     refine ⟨j + 1, l.set j zeros140, by go_num, by omega, Nat.le_refl _, ⟨by rw [List.length_set]; exact HLL.out⟩, ⟨fun i hi => ?_⟩, ⟨blk_put HXR.out j _ (strs_set _ _ _)⟩, ⟨HKR.out.setCell (Or.inl rfl) _⟩, ⟨HBR.out.setCell (HR.out sb (Or.inr (Or.inl rfl))) _⟩⟩
     have := HLL.out
     rw [List.getElem?_set]
     by_cases e : j = i
     ·rw [if_pos e, if_pos (by omega)]
     ·rw [if_neg e]; exact HLI.out i (by omega)
   ·obtain rfl : j = n := by omega
    have hleq : l = List.replicate j zeros140 := by
     apply List.ext_getElem?
     intro i
     rw [List.getElem?_replicate]
     by_cases hi : i < j
     ·rw [if_pos hi]; exact HLI.out i hi
     ·rw [if_neg hi]; exact List.getElem?_eq_none (by have := HLL.out; omega)
    have hdev := newAt (W := W) (W4 := wr) (n := j) (L := ⟨g, sb, ob, bm⟩) h1 (HGR.out.trans (by unfold gcells newS; simp only [List.length_replicate])) (by rw [← hleq]; exact HXR.out) (blk_kept FO.out HKR.out (fun e => HSO.out e.symm)) ((HKR.out.2 bm (Array.getElem?_eq_some_iff.1 FM.out).1 (fun e => HSM.out e.symm)).trans FM.out) HR.out
    have HDEV := Aside0.mk hdev
    clear hleq hdev
    go_wp2_with fail
    go_ret2
    exact ⟨⟨g, sb, ob, bm⟩, _, rfl, HDEV.out, HBR.out⟩
 ·obtain ⟨f0, f1, f2, f3, fs, fb⟩ := four W (.map #[] 0) (.cells (nils n) 26) (.cells (strs (List.replicate n ⟨#[]⟩)) 9) (.cells #[.slice (some ⟨W.heap.size + 1 + 1, 0, none⟩) n n, .slice (some ⟨W.heap.size + 1, 0, none⟩) n n, .slice none 0 0, .map (some (W.heap.size)), .bool false, .int .i64 0, .slice none 0 0, .bool false] 81)
  obtain ⟨W4, hW4⟩ : ∃ W4, W4 = ((((W.alloc (.map #[] 0)).alloc (.cells (nils n) 26)).alloc (.cells (strs (List.replicate n ⟨#[]⟩)) 9)).alloc (.cells #[.slice (some ⟨W.heap.size + 1 + 1, 0, none⟩) n n, .slice (some ⟨W.heap.size + 1, 0, none⟩) n n, .slice none 0 0, .map (some (W.heap.size)), .bool false, .int .i64 0, .slice none 0 0, .bool false] 81)).drew := ⟨_, rfl⟩
  rw [← hW4] at f0 f1 f2 f3 fs fb ⊢
  have HFB := Aside0.mk fb
  obtain ⟨sb, hsb⟩ : ∃ sb, sb = W.heap.size + 1 + 1 := ⟨_, rfl⟩
  obtain ⟨ob, hob⟩ : ∃ ob, ob = W.heap.size + 1 := ⟨_, rfl⟩
  obtain ⟨bm, hbm⟩ : ∃ bm, bm = W.heap.size := ⟨_, rfl⟩
  obtain ⟨g, hg⟩ : ∃ g, g = W.heap.size + 1 + 1 + 1 := ⟨_, rfl⟩
  rw [← hg] at f3 ⊢
  rw [← hsb, ← hob, ← hbm] at f3 ⊢
  rw [← hsb] at f2
  rw [← hob] at f1
  rw [← hbm] at f0
  have FS := Aside0.mk f2
  have FO := Aside0.mk f1
  have FM := Aside0.mk f0
  have FG := Aside0.mk f3
  have HR := Aside0.mk (show ∀ k, (k = g ∨ k = sb ∨ k = ob ∨ k = bm) → W.heap.size ≤ k from fun k hk => by rcases hk with e | e | e | e <;> omega)
  have lg : g < W4.heap.size := blk_lt f3
  have c0 : W4.cell? ⟨g, 0, none⟩ = some (.slice (some ⟨sb, 0, none⟩) n n) := by rw [blk_cell f3]; rfl
  have hsg : sb ≠ g := blk_ne FS.out FG.out (by decide)
  have hso : sb ≠ ob := blk_ne FS.out FO.out (by decide)
  have hsm : sb ≠ bm := fun e => by have h1 := FS.out; rw [e] at h1; have h2 := h1.symm.trans FM.out; cases h2
  have hgs : g ≠ sb := fun e => hsg e.symm
  have HSO := Aside0.mk hso
  have HSM := Aside0.mk hsm
  clear f0 f1 f2 f3 fs fb hsb hob hbm hg hW4 hm1 hm2 hso hsm hk
  go_wp2_with fail
  obtain ⟨W5, hW5⟩ : ∃ W5, W5 = W4.alloc (.cells (madeCells #[.int .u8 0] 140) 5) := ⟨_, rfl⟩
  have HB5 := Aside0.mk (show Below W4.heap.size W4 W5 by rw [hW5]; exact below_alloc (Below.refl _ _) _)
  have c05 : W5.cell? ⟨g, 0, none⟩ = some (.slice (some ⟨sb, 0, none⟩) n n) := (HB5.out.cell (p := ⟨g, 0, none⟩) lg).trans c0
  rw [← hW5]
  have HG5 := Aside0.mk (blk_below FG.out HB5.out)
  have HS5 := Aside0.mk (blk_below FS.out HB5.out)
  clear hW5 hm3 hcv c0
  go_loopg [6, 27] n (fun gg _ s27 wr => ∃ (j : Nat) (l : List ByteArray), s27 = .int .i64 j ∧ j ≤ n ∧ n - j ≤ gg ∧ Aside0 (l.length = n) ∧ Aside0 (∀ i, i < j → l[i]? = some zeros140) ∧ Aside0 (wr.heap[sb]? = some (.cells (strs l) 9 (0, 0))) ∧ Aside0 (Kept W4 wr (fun k => k = sb)) ∧ Aside0 (Below W.heap.size W wr))
  case atStart => exact ⟨0, List.replicate n ⟨#[]⟩, by go_num, Nat.zero_le _, by omega, ⟨by simp⟩, ⟨fun i hi => by omega⟩, HS5, ⟨Kept.of_below HB5.out _⟩, ⟨below_step HFB.out HB5.out⟩⟩
  case round =>
   obtain ⟨j, l, rfl, hj, hgg, HLL, HLI, HXR, HKR, HBR⟩ := hrel
   have hgr := blk_kept FG.out HKR.out hgs
   have cg : wr.cell? ⟨g, 0, none⟩ = some (.slice (some ⟨sb, 0, none⟩) n n) := by rw [blk_cell hgr]; rfl
   have HGR := Aside0.mk hgr
   clear hgr
   by_cases hlt : j < n
   ·have hltz : (j : Int) < (n : Int) := by omega
    have cj : wr.cell? ⟨sb, j, none⟩ = some (.string (l[j]'(by have := HLL.out; omega))) := by rw [blk_cell HXR.out]; exact strs_at l j (by have := HLL.out; omega)
    have fj : wr.frozen? ⟨sb, j, none⟩ = false := blk_frozen HXR.out j
    go_wp2_with fail
    go_roundg (n - (j + 1))
    case measure => omega
    case rel =>
     refine ⟨j + 1, l.set j zeros140, by go_num, by omega, Nat.le_refl _, ⟨by rw [List.length_set]; exact HLL.out⟩, ⟨fun i hi => ?_⟩, ⟨blk_put HXR.out j _ (strs_set _ _ _)⟩, ⟨HKR.out.setCell (Or.inl rfl) _⟩, ⟨HBR.out.setCell (HR.out sb (Or.inr (Or.inl rfl))) _⟩⟩
     have := HLL.out
     rw [List.getElem?_set]
     by_cases e : j = i
     ·rw [if_pos e, if_pos (by omega)]
     ·rw [if_neg e]; exact HLI.out i (by omega)
   ·obtain rfl : j = n := by omega
    have hleq : l = List.replicate j zeros140 := by
     apply List.ext_getElem?
     intro i
     rw [List.getElem?_replicate]
     by_cases hi : i < j
     ·rw [if_pos hi]; exact HLI.out i hi
     ·rw [if_neg hi]; exact List.getElem?_eq_none (by have := HLL.out; omega)
    have hdev := newAt (W := W) (W4 := wr) (n := j) (L := ⟨g, sb, ob, bm⟩) h1 (HGR.out.trans (by unfold gcells newS; simp only [List.length_replicate])) (by rw [← hleq]; exact HXR.out) (blk_kept FO.out HKR.out (fun e => HSO.out e.symm)) ((HKR.out.2 bm (Array.getElem?_eq_some_iff.1 FM.out).1 (fun e => HSM.out e.symm)).trans FM.out) HR.out
    have HDEV := Aside0.mk hdev
    clear hleq hdev
    go_wp2_with fail
    go_ret2
    exact ⟨⟨g, sb, ob, bm⟩, _, rfl, HDEV.out, HBR.out⟩
theorem fine_new (n : Nat) (h1 : 1 ≤ n) (h2 : n ≤ 1155) : Fine 0 (newS n) :=
  { len := by simp [newS]
    n0 := by simpa [newS] using h1
    n1 := by simpa [newS] using h2
    size := fun s hs => by
      have hs : s ∈ List.replicate n zeros140 := hs
      rw [(List.mem_replicate.1 hs).2]; rfl
    olen := fun l hl => by
      have hl : l ∈ List.replicate n ([] : List ByteArray) := hl
      rw [(List.mem_replicate.1 hl).2]; exact Nat.zero_le _
    osize := fun l hl s hs => by
      have hl : l ∈ List.replicate n ([] : List ByteArray) := hl
      rw [(List.mem_replicate.1 hl).2] at hs; cases hs
    pend := fun w hw => by cases hw
    plen := Nat.le_refl _
    l0 := ⟨Int.le_refl _, by show (0 : Int) ≤ _; decide⟩ }
end Go.Proofs.Ytflajmgichdhhaa.PG
namespace Go.Proofs.Ytflajmgichdhhaa.PG
open Go.RowKit Go.Proofs.YtflajmgichdhhaaW.PrintWords Go.Proofs.YtflajmgichdhhaaW.PrintLast Go.Proofs.YtflajmgichdhhaaW.PrintMore
set_option linter.unusedVariables false
set_option linter.unusedSimpArgs false
def padS (x : ByteArray) : ByteArray := x ++ ⟨(List.replicate (140 - x.size) 0).toArray⟩
def fullS (s : ByteArray) : ByteArray := padS (s.extract 0 140)
theorem padS_size (x : ByteArray) (h : x.size ≤ 140) : (padS x).size = 140 := by
 unfold padS
 rw [ByteArray.size_append]
 show x.size + (List.replicate (140 - x.size) (0 : UInt8)).toArray.size = 140
 rw [List.size_toArray, List.length_replicate]
 omega
theorem fullS_size (s : ByteArray) : (fullS s).size = 140 := padS_size _ (by rw [ByteArray.size_extract]; omega)
theorem pad_done (x : ByteArray) (h : 140 ≤ x.size) : padS x = x := by
 unfold padS
 rw [show 140 - x.size = 0 by omega]
 apply ByteArray.ext
 simp
theorem pad_step (x : ByteArray) (h : x.size < 140) : padS (x ++ ⟨#[0]⟩) = padS x := by
 unfold padS
 have e : (x ++ (⟨#[0]⟩ : ByteArray)).size = x.size + 1 := by rw [ByteArray.size_append]; rfl
 rw [e]
 obtain ⟨d, hd⟩ : ∃ d, 140 - x.size = d + 1 := ⟨140 - x.size - 1, by omega⟩
 rw [hd, show 140 - (x.size + 1) = d by omega]
 apply ByteArray.ext
 apply Array.toList_inj.1
 simp [List.replicate_succ]
theorem padded_l0 : ∀ (d : Nat) (x : ByteArray), 140 - x.size ≤ d → ∃ k, dasdref01_Padded.l0 k x 140 = some (padS x)
 | 0, x, h => ⟨1, by unfold dasdref01_Padded.l0; rw [if_neg (by omega), pad_done x (by omega)]⟩
 | d + 1, x, h => by
  by_cases hx : x.size < 140
  ·have e : (x ++ (⟨#[0]⟩ : ByteArray)).size = x.size + 1 := by rw [ByteArray.size_append]; rfl
   obtain ⟨k, hk⟩ := padded_l0 d (x ++ ⟨#[0]⟩) (by omega)
   refine ⟨k + 1, ?_⟩
   unfold dasdref01_Padded.l0
   rw [if_pos (by omega), if_pos (by omega), hk, pad_step x hx]
  ·exact ⟨1, by unfold dasdref01_Padded.l0; rw [if_neg (by omega), pad_done x (by omega)]⟩
theorem full_f (s : ByteArray) : ∃ k, dasdref03_Full.f k s = some (fullS s) := by
 unfold fullS
 by_cases h : (s.size : Int) > 140
 ·obtain ⟨k, hk⟩ := padded_l0 140 (s.extract 0 140) (by omega)
  refine ⟨k, ?_⟩
  unfold dasdref03_Full.f dasdref01_Padded.f
  rw [if_pos h, if_pos (by decide), if_pos (by omega), hk]
  rfl
 ·have e : s.extract 0 140 = s := by
   apply ByteArray.ext
   simp
   exact Or.inr (by omega)
  rw [e]
  obtain ⟨k, hk⟩ := padded_l0 140 s (by omega)
  refine ⟨k, ?_⟩
  unfold dasdref03_Full.f dasdref01_Padded.f
  rw [if_neg h, hk]
  rfl
theorem full_calls (W : World) (s : ByteArray) : Calls Try.prog 19 #[.string s] W fun e W' => e = .returned (.string (fullS s)) ∧ Below W.heap.size W W' := by
 obtain ⟨k, hk⟩ := full_f s
 refine (dasdref03_Full.calls k s _ W hk).mono ?_
 rintro e W' ⟨he, hd⟩
 exact ⟨he, hd.below⟩
theorem DevPost.keep {W W' : World} {B : Nat} {L : Lay} {F : Nat → Prop} {S : DevS} (h : DevPost B L F S W W') : ∃ F', DevIs W' B L F' S ∧ (∀ b o, W.heap[b]? = some o → ¬ F b → W'.heap[b]? = some o ∧ ¬ F' b) ∧ Below B W W' ∧ W.heap.size ≤ W'.heap.size := by
 obtain ⟨F', h1, h2, h3, h4⟩ := h
 refine ⟨F', h1, fun b o hb hf => ⟨blk_kept hb h3 hf, fun z => (h2 b z).elim hf (fun y => ?_)⟩, h4, h3.1⟩
 have := (Array.getElem?_eq_some_iff.1 hb).1
 omega
def awS : ByteArray := fullS ⟨#[97, 98, 99, 100, 101, 102]⟩
def awT : ByteArray := fullS ⟨#[97, 98, 99]⟩
def aw0 : DevS := newS 2
def aw1 : DevS := (writeS aw0 1 5 0 awS).2
def aw2 : DevS := finishS (isOf 1) [3] aw1
def aw3 : DevS := fenceS aw2 1 5
def aw4 : DevS := (writeS aw3 1 5 0 awS).2
theorem aw_w1 : (writeS aw0 1 5 0 awS).1 = 0 := by kernel_rfl
theorem aw_p1 : pendN aw1 1 = 1 := by kernel_rfl
theorem aw_r1 : readS aw1 0 = (awS, 0) := by kernel_rfl
theorem aw_r2 : readS aw2 0 = (awT, 0) := by kernel_rfl
theorem aw_o3 : oldN aw3 0 = 1 := by kernel_rfl
theorem aw_w4 : (writeS aw3 1 5 0 awS).1 = 13 := by kernel_rfl
theorem aw_w5 : (writeS aw4 1 6 0 awS).1 = 0 := by kernel_rfl
theorem fine_w {k : Nat} {S : DevS} (h : Fine k S) (sys ep sec : Int) (d : ByteArray) : Fine (k + 1) (writeS S sys ep sec d).2 := by
 unfold writeS
 split
 ·rename_i h1
  split
  ·rename_i h2
   split
   ·rename_i h3
    obtain ⟨e1, e2⟩ := admit_zero h3
    have ha := (h.admit sys ep).mono (Nat.le_succ k)
    have hp : 1 ≤ sys ∧ sys ≤ 4 ∧ 0 ≤ ep ∧ ep ≤ 1099511627776 := of_decide_eq_true h1.1
    refine { ha with pend := ?_, plen := ?_ }
    ·intro w hw
     rcases List.mem_append.1 (show w ∈ (admitS S sys ep).2.pend ++ [⟨sys, sec, d⟩] from hw) with hw | hw
     ·exact ha.pend w hw
     ·rw [List.mem_singleton.1 hw]
      show 1 ≤ sys ∧ sys ≤ 4 ∧ 0 ≤ sec ∧ sec < (((admitS S sys ep).2.stable.length : Nat) : Int) ∧ d.size = 140
      rw [e2]
      exact ⟨hp.1, hp.2.1, h2.1, h2.2, h1.2⟩
    ·show ((admitS S sys ep).2.pend ++ [_]).length ≤ k + 1
     rw [e1, List.length_append]
     have := h.plen
     simp
     exact this
   ·exact (h.admit sys ep).mono (Nat.le_succ k)
  ·exact h.mono (Nat.le_succ k)
 ·exact h.mono (Nat.le_succ k)
theorem Fine.fence {k : Nat} {S : DevS} (h : Fine k S) (sys ep : Int) : Fine k (fenceS S sys ep) := by
 have key : ∀ b : Bool, Fine k (if b = true then { S with fences := fun a => if a = sys then some ep else S.fences a } else S) := fun b => by
  cases b
  ·exact h
  ·exact { h with }
 unfold fenceS
 split
 ·exact h
 ·exact key _
theorem fine_aw1 : Fine 1 aw1 := fine_w (fine_new 2 (by decide) (by decide)) _ _ _ _
theorem fine_aw2 : Fine 1 aw2 := fine_aw1.finish _ _
theorem fine_aw3 : Fine 1 aw3 := fine_aw2.fence _ _
theorem fine_aw4 : Fine 2 aw4 := fine_w fine_aw3 _ _ _ _
theorem DevIs.at_ {W : World} {B : Nat} {L : Lay} {F : Nat → Prop} {S : DevS} (h : DevIs W B L F S) : ∃ vs pv uv m, DevAt W B L vs pv uv m F S := h
theorem readI {W : World} {B : Nat} {L : Lay} {F : Nat → Prop} {S : DevS} (h : DevIs W B L F S) (hpl : S.pend.length ≤ 1000000) (i : Int) :
  Calls Try.prog 23 #[.pointer (some ⟨L.g, 0, none⟩), .int .i64 i] W fun e W' => e = .returned (.tuple #[.string (readS S i).1, .int .i64 (readS S i).2]) ∧ W = W' := by
 obtain ⟨vs, pv, uv, m, h⟩ := h
 exact read_calls h hpl i
theorem pendI {W : World} {B : Nat} {L : Lay} {F : Nat → Prop} {S : DevS} (h : DevIs W B L F S) (hpl : S.pend.length ≤ 1000000) (i : Int) :
  Calls Try.prog 24 #[.pointer (some ⟨L.g, 0, none⟩), .int .i64 i] W fun e W' => e = .returned (.int .i64 (pendN S i : Int)) ∧ Below W.heap.size W W' := by
 obtain ⟨vs, pv, uv, m, h⟩ := h
 exact pending_calls h hpl i
theorem oldI {W : World} {B : Nat} {L : Lay} {F : Nat → Prop} {S : DevS} (h : DevIs W B L F S) (hlen : S.old.length = S.stable.length) (i : Int) :
  Calls Try.prog 25 #[.pointer (some ⟨L.g, 0, none⟩), .int .i64 i] W fun e W' => e = .returned (.int .i64 (oldN S i)) ∧ W = W' := by
 obtain ⟨vs, pv, uv, m, h⟩ := h
 exact old_calls h hlen i
set_option maxHeartbeats 4000000 in
set_option maxRecDepth 100000 in
theorem awake_calls (W : World) :
  Calls Try.prog 10 #[] W fun e W' => e = .returned (.bool true) ∧ Below W.heap.size W W' := by
 have e1 : ∀ k, Calls Try.prog 19 #[.string ⟨#[97, 98, 99, 100, 101, 102]⟩] k fun e W' => e = .returned (.string awS) ∧ Below k.heap.size k W' := fun k => full_calls k _
 have e2 : ∀ k, Calls Try.prog 19 #[.string ⟨#[97, 98, 99]⟩] k fun e W' => e = .returned (.string awT) ∧ Below k.heap.size k W' := fun k => full_calls k _
 have hsS : awS.size = 140 := fullS_size _
 have E1 := Aside0.mk e1
 have E2 := Aside0.mk e2
 have HSS := Aside0.mk hsS
 have hqS : (awS.toList == awS.toList) = true := bytes_yes rfl
 have hqT : (awT.toList == awT.toList) = true := bytes_yes rfl
 clear e1 e2 hsS
 go_enter Try.func10, Try.ntmps10
 go_wp2_with fail
 refine (new_calls W 2 (by decide) (by decide)).mono ?_
 rintro e W1 ⟨L, F1, rfl, hI1, hb1⟩
 have HI1 := Aside0.mk hI1
 have HB1 := Aside0.mk hb1
 clear hI1 hb1
 go_wp2_with fail
 refine (E1.out W1).mono ?_
 rintro e W2 ⟨rfl, hb2⟩
 have HI2 := Aside0.mk (HI1.out.below hb2)
 have HB2 := Aside0.mk (HB1.out.trans (hb2.mono HB1.out.size))
 clear hb2 HI1 HB1
 go_wp2_with fail
 obtain ⟨W3, hW3⟩ : ∃ W3, W3 = W2.alloc (.cells #[.int .i64 1, .int .i64 5] 35) := ⟨_, rfl⟩
 obtain ⟨wb, hwb⟩ : ∃ wb, wb = W2.heap.size := ⟨_, rfl⟩
 have hx3 : W3.heap[wb]? = some (.cells #[.int .i64 1, .int .i64 5] 35 (0, 0)) := by rw [hW3, hwb]; exact blk_new _ _
 have hn3 : ¬ F1 wb := fun z => by have := (HI2.out.range _ z).2; omega
 have HI3 := Aside0.mk (show DevIs W3 W.heap.size L F1 aw0 by rw [hW3]; exact HI2.out.below (below_alloc (Below.refl _ _) _))
 have HB3 := Aside0.mk (show Below W.heap.size W W3 by rw [hW3]; exact HB2.out.trans ((below_alloc (Below.refl _ _) _).mono HB2.out.size))
 have x3 : W3.cell? ⟨wb, 0, none⟩ = some (.int .i64 1) := by rw [blk_cell hx3]; rfl
 have x3' : W3.cell? ⟨wb, 1, none⟩ = some (.int .i64 5) := by rw [blk_cell hx3]; rfl
 rw [← hW3, ← hwb]
 have HX3 := Aside0.mk hx3
 have HN3 := Aside0.mk hn3
 clear hW3 hwb hx3 hn3 HI2 HB2
 refine (write_calls HI3.out (fine_new 2 (by decide) (by decide)) (by decide) (by decide) 1 5 0 awS).mono ?_
 rintro e W4 ⟨rfl, hpo⟩
 rw [aw_w1]
 obtain ⟨F4, hI4, hk4, hb4, hs4⟩ := hpo.keep
 obtain ⟨hx4, hn4⟩ := hk4 wb _ HX3.out HN3.out
 have HI4 := Aside0.mk (show DevIs W4 W.heap.size L F4 aw1 from hI4)
 have HB4 := Aside0.mk (HB3.out.trans hb4)
 have HX4 := Aside0.mk hx4
 have HN4 := Aside0.mk hn4
 clear hpo hI4 hk4 hb4 hs4 hx4 hn4 HI3 HB3 HX3 HN3 x3 x3'
 go_wp2_with fail
 refine (pendI HI4.out (Nat.le_trans fine_aw1.plen (by decide)) 1).mono ?_
 rintro e W5 ⟨rfl, hb5⟩
 rw [aw_p1]
 have HI5 := Aside0.mk (HI4.out.below hb5)
 have HX5 := Aside0.mk (blk_below HX4.out hb5)
 have HB5 := Aside0.mk (HB4.out.trans (hb5.mono HB4.out.size))
 clear hb5 HI4 HB4 HX4
 go_wp2_with fail
 refine (readI HI5.out (Nat.le_trans fine_aw1.plen (by decide)) 0).mono ?_
 rintro e W6 ⟨rfl, rfl⟩
 rw [aw_r1]
 go_wp2_with fail
 have hb7 := below_alloc (Below.refl W5.heap.size W5) (.cells #[.int .i64 3] 3)
 have HB7 := Aside0.mk (HB5.out.trans (hb7.mono HB5.out.size))
 have HI7 := Aside0.mk (HI5.out.below hb7)
 have HX7 := Aside0.mk (blk_below HX5.out hb7)
 have hn7 : ¬ F4 W5.heap.size := fun z => by have := (HI5.out.range _ z).2; omega
 refine (crash_calls HI7.out fine_aw1 (by decide) 1 (some ⟨W5.heap.size, 0, none⟩) 1 [3] (ints_F (blk_new _ _) (by decide) hn7) (by decide) (by decide)).mono ?_
 rintro e W8 ⟨rfl, hpo⟩
 obtain ⟨F8, hI8, hk8, hb8, hs8⟩ := hpo.keep
 obtain ⟨hx8, hn8⟩ := hk8 wb _ HX7.out HN4.out
 have HI8 := Aside0.mk (show DevIs W8 W.heap.size L F8 aw2 from hI8)
 have HB8 := Aside0.mk (HB7.out.trans hb8)
 have HX8 := Aside0.mk hx8
 have HN8 := Aside0.mk hn8
 clear hpo hI8 hk8 hb8 hs8 hx8 hn8 HI5 HB5 HX5 HN4 HI7 HB7 HX7 hb7 hn7
 go_wp2_with fail
 refine (readI HI8.out (Nat.le_trans fine_aw2.plen (by decide)) 0).mono ?_
 rintro e W9 ⟨rfl, rfl⟩
 rw [aw_r2]
 go_wp2_with fail
 refine (fence_calls HI8.out 1 5).mono ?_
 rintro e W10 ⟨rfl, hpo⟩
 obtain ⟨F10, hI10, hk10, hb10, hs10⟩ := hpo.keep
 obtain ⟨hx10, hn10⟩ := hk10 wb _ HX8.out HN8.out
 have HI10 := Aside0.mk (show DevIs W10 W.heap.size L F10 aw3 from hI10)
 have HB10 := Aside0.mk (HB8.out.trans hb10)
 have HX10 := Aside0.mk hx10
 have HN10 := Aside0.mk hn10
 clear hpo hI10 hk10 hb10 hs10 hx10 hn10 HI8 HB8 HX8 HN8
 go_wp2_with fail
 refine (E2.out W10).mono ?_
 rintro e W11 ⟨rfl, hb11⟩
 have HI11 := Aside0.mk (HI10.out.below hb11)
 have HX11 := Aside0.mk (blk_below HX10.out hb11)
 have HB11 := Aside0.mk (HB10.out.trans (hb11.mono HB10.out.size))
 clear hb11 HI10 HB10 HX10
 go_wp2_with fail
 refine (oldI HI11.out fine_aw3.len 0).mono ?_
 rintro e W12 ⟨rfl, rfl⟩
 rw [aw_o3]
 have x12 : W11.cell? ⟨wb, 0, none⟩ = some (.int .i64 1) := by rw [blk_cell HX11.out]; rfl
 have x12' : W11.cell? ⟨wb, 1, none⟩ = some (.int .i64 5) := by rw [blk_cell HX11.out]; rfl
 go_wp2_with fail
 refine (write_calls HI11.out fine_aw3 (by decide) (by decide) 1 5 0 awS).mono ?_
 rintro e W13 ⟨rfl, hpo⟩
 rw [aw_w4]
 obtain ⟨F13, hI13, hk13, hb13, hs13⟩ := hpo.keep
 have HI13 := Aside0.mk (show DevIs W13 W.heap.size L F13 aw4 from hI13)
 have HB13 := Aside0.mk (HB11.out.trans hb13)
 clear hpo hI13 hk13 hb13 hs13 HI11 HB11 HX11 x12 x12'
 go_wp2_with fail
 refine (write_calls HI13.out fine_aw4 (by decide) (by decide) 1 6 0 awS).mono ?_
 rintro e W14 ⟨rfl, hpo⟩
 rw [aw_w5]
 obtain ⟨F14, hI14, hk14, hb14, hs14⟩ := hpo.keep
 have HB14 := Aside0.mk (HB13.out.trans hb14)
 clear hpo hI14 hk14 hb14 hs14
 go_wp2_with fail
 go_ret
 exact ⟨rfl, HB14.out⟩
end Go.Proofs.Ytflajmgichdhhaa.PG
namespace Go.Proofs.Ytflajmgichdhhaa.PG
open Go.RowKit Go.Proofs.YtflajmgichdhhaaW.PrintWords Go.Proofs.YtflajmgichdhhaaW.PrintLast Go.Proofs.YtflajmgichdhhaaW.PrintMore
set_option linter.unusedVariables false
set_option linter.unusedSimpArgs false
def FencesOk (fl : List Int) (fs : Int → Option Int) : Prop := ∀ s : Nat, 1 ≤ s → s ≤ 4 → 0 ≤ fl.getD s 0 ∧ fl.getD s 0 ≤ 1099511627777 ∧ ∀ ep : Int, 0 ≤ ep → ep ≤ 1099511627776 → (ep < fl.getD s 0 ↔ ∃ f, fs (s : Int) = some f ∧ ep ≤ f)
def FuseOk (fu : Int) (sv : List Int) (S : DevS) : Prop := (S.fset = false → fu = -1) ∧ (S.fset = true → fu = S.left ∧ sv = S.surv)
structure RefAt (W : World) (ok : Nat → Prop) (v v0 v1 v2 v3 v6 : Value) (fl : List Int) (fu : Int) (sv : List Int) (S : DevS) : Prop where
  hv : v = .agg #[v0, v1, v2, v3, .bool S.failed, .int .i64 fu, v6]
  h0 : Kd.V Kd.string 9 W 0 ok v0 S.stable
  h1 : Kd.V (Kd.slice 9 Kd.string) 26 W 0 ok v1 S.old
  h2 : Kd.V k99 99 W 0 ok v2 S.pend
  h3 : Kd.V (Kd.int .i64) 3 W 0 ok v3 fl
  h6 : Kd.V (Kd.int .i64) 3 W 0 ok v6 sv
  fl5 : fl.length = 5
  fok : FencesOk fl S.fences
  uok : FuseOk fu sv S
def RefIs (W : World) (ok : Nat → Prop) (v : Value) (S : DevS) : Prop := ∃ v0 v1 v2 v3 v6 fl fu sv, RefAt W ok v v0 v1 v2 v3 v6 fl fu sv S
theorem RefIs.step {W W1 : World} {ok : Nat → Prop} {v : Value} {S : DevS} (h : RefIs W ok v S) (hm : ∀ k, ok k → k < W.heap.size → W1.heap[k]? = W.heap[k]?) : RefIs W1 ok v S := by
 obtain ⟨v0, v1, v2, v3, v6, fl, fu, sv, h⟩ := h
 exact ⟨v0, v1, v2, v3, v6, fl, fu, sv, { h with h0 := Kd.V_step h.h0 hm, h1 := Kd.V_step h.h1 hm, h2 := Kd.V_step h.h2 hm, h3 := Kd.V_step h.h3 hm, h6 := Kd.V_step h.h6 hm }⟩
theorem RefIs.below {W W1 : World} {ok : Nat → Prop} {v : Value} {S : DevS} (h : RefIs W ok v S) (hb : Below W.heap.size W W1) : RefIs W1 ok v S := h.step (fun k _ hk => hb.block k hk)
theorem RefIs.mono {W : World} {ok ok' : Nat → Prop} {v : Value} {S : DevS} (h : RefIs W ok v S) (hok : ∀ k, ok k → k < W.heap.size → ok' k) : RefIs W ok' v S := by
 obtain ⟨v0, v1, v2, v3, v6, fl, fu, sv, h⟩ := h
 have hm : ∀ {α : Type} {d : Kd α} {e : Nat} {u : Value} {xs : List α}, Kd.V d e W 0 ok u xs → Kd.V d e W 0 ok' u xs := fun hu => Kd.V_mono (Kd.V_bound hu) (fun k hk => hok k hk.1 hk.2)
 exact ⟨v0, v1, v2, v3, v6, fl, fu, sv, { h with h0 := hm h.h0, h1 := hm h.h1, h2 := hm h.h2, h3 := hm h.h3, h6 := hm h.h6 }⟩
theorem RefIs.kept {W W1 : World} {F F1 : Nat → Prop} {v : Value} {S : DevS} (h : RefIs W (fun k => ¬ F k) v S) (hk : Kept W W1 F) (hF : ∀ k, F1 k → F k ∨ W.heap.size ≤ k) : RefIs W1 (fun k => ¬ F1 k) v S := by
 obtain ⟨v0, v1, v2, v3, v6, fl, fu, sv, h⟩ := h
 have hm : ∀ {α : Type} {d : Kd α} {e : Nat} {u : Value} {xs : List α}, Kd.V d e W 0 (fun k => ¬ F k) u xs → Kd.V d e W1 0 (fun k => ¬ F1 k) u xs := fun hu => Kd.V_mono (Kd.V_kept (Kd.V_bound hu) hk (fun k z => z.1)) (fun k hk z => (hF k z).elim hk.1 (fun y => by have := hk.2; omega))
 exact ⟨v0, v1, v2, v3, v6, fl, fu, sv, { h with h0 := hm h.h0, h1 := hm h.h1, h2 := hm h.h2, h3 := hm h.h3, h6 := hm h.h6 }⟩
def kNil : Kd Unit := Kd.scalar (fun _ => .slice none 0 0) (fun _ => rfl)
theorem nil_C {W : World} {A : Option Addr} {n : Nat} (h : kNil.C W A n (List.replicate n ())) : (Kd.slice 9 Kd.string).C W A n (List.replicate n []) := by
 obtain ⟨h1, h2, h3⟩ := h
 refine ⟨by simp, h2, fun hn => ?_⟩
 obtain ⟨ad, e, hc⟩ := h3 hn
 refine ⟨ad, e, fun j p hj => ?_⟩
 have hjn : j < n := by have := (List.getElem?_eq_some_iff.1 hj).1; simpa using this
 have hp : p = [] := by
  have := List.getElem?_replicate (a := ([] : List ByteArray)) (n := n) (i := j)
  rw [hj, if_pos hjn] at this
  exact Option.some.inj this
 obtain ⟨c, c1, c2, c3⟩ := hc j () (by rw [List.getElem?_replicate, if_pos hjn])
 refine ⟨c, c1, ?_, c3⟩
 rw [hp]
 exact ⟨none, 0, c2, Nat.le_refl _, Kd.C_nil _ _⟩
theorem padded_calls (W : World) : Calls Try.prog 47 #[.string ⟨#[]⟩, .int .i64 140] W fun e W' => e = .returned (.string zeros140) ∧ Below W.heap.size W W' := by
 obtain ⟨k, hk⟩ := padded_l0 140 ⟨#[]⟩ (by decide)
 have e : padS ⟨#[]⟩ = zeros140 := by kernel_rfl
 rw [e] at hk
 refine (dasdref01_Padded.calls k ⟨#[]⟩ 140 _ W hk).mono ?_
 rintro e W' ⟨he, hd⟩
 exact ⟨he, hd.below⟩
def set7 (w : World) (b : Nat) (a0 a1 a2 a3 a4 a5 a6 : Value) : World := ((((((w.setCell ⟨b, 0, none⟩ a0).setCell ⟨b, 1, none⟩ a1).setCell ⟨b, 2, none⟩ a2).setCell ⟨b, 3, none⟩ a3).setCell ⟨b, 4, none⟩ a4).setCell ⟨b, 5, none⟩ a5).setCell ⟨b, 6, none⟩ a6
theorem set7_blk {w : World} {b : Nat} {x0 x1 x2 x3 x4 x5 x6 : Value} {t : TypeId} (h : w.heap[b]? = some (.cells #[x0, x1, x2, x3, x4, x5, x6] t (0, 0))) (a0 a1 a2 a3 a4 a5 a6 : Value) : (set7 w b a0 a1 a2 a3 a4 a5 a6).heap[b]? = some (.cells #[a0, a1, a2, a3, a4, a5, a6] t (0, 0)) :=
 blk_put (blk_put (blk_put (blk_put (blk_put (blk_put (blk_put h 0 a0 rfl) 1 a1 rfl) 2 a2 rfl) 3 a3 rfl) 4 a4 rfl) 5 a5 rfl) 6 a6 (by rfl)
theorem set7_far (w : World) (b : Nat) (a0 a1 a2 a3 a4 a5 a6 : Value) (k : Nat) (hk : k ≠ b) : (set7 w b a0 a1 a2 a3 a4 a5 a6).heap[k]? = w.heap[k]? :=
 (Below.heap_setCell _ _ _ _ hk).trans ((Below.heap_setCell _ _ _ _ hk).trans ((Below.heap_setCell _ _ _ _ hk).trans ((Below.heap_setCell _ _ _ _ hk).trans ((Below.heap_setCell _ _ _ _ hk).trans ((Below.heap_setCell _ _ _ _ hk).trans (Below.heap_setCell _ _ _ _ hk))))))
theorem set7_below {W w : World} {b : Nat} (h : Below W.heap.size W w) (hb : W.heap.size ≤ b) (a0 a1 a2 a3 a4 a5 a6 : Value) : Below W.heap.size W (set7 w b a0 a1 a2 a3 a4 a5 a6) :=
 ((((((h.setCell (p := ⟨b, 0, none⟩) hb a0).setCell (p := ⟨b, 1, none⟩) hb a1).setCell (p := ⟨b, 2, none⟩) hb a2).setCell (p := ⟨b, 3, none⟩) hb a3).setCell (p := ⟨b, 4, none⟩) hb a4).setCell (p := ⟨b, 5, none⟩) hb a5).setCell (p := ⟨b, 6, none⟩) hb a6
theorem set7_size (w : World) (b : Nat) (a0 a1 a2 a3 a4 a5 a6 : Value) : (set7 w b a0 a1 a2 a3 a4 a5 a6).heap.size = w.heap.size := by simp [set7, World.setCell]
theorem three (W : World) (a b c : Obj) : (((W.alloc a).alloc b).alloc c).heap[W.heap.size]? = some a ∧ (((W.alloc a).alloc b).alloc c).heap[W.heap.size + 1]? = some b ∧
  (((W.alloc a).alloc b).alloc c).heap[W.heap.size + 1 + 1]? = some c ∧ Below W.heap.size W (((W.alloc a).alloc b).alloc c) := by
 have e1 : (W.alloc a).heap.size = W.heap.size + 1 := by simp
 have e2 : ((W.alloc a).alloc b).heap.size = W.heap.size + 1 + 1 := by simp
 have n1 := blk_new (W.alloc a) b
 have n2 := blk_new ((W.alloc a).alloc b) c
 rw [e1] at n1
 rw [e2] at n2
 exact ⟨blk_alloc (blk_alloc (blk_new _ _) _) _, blk_alloc n1 _, n2, below_alloc (below_alloc (below_alloc (Below.refl _ _) _) _) _⟩
theorem replicate_snoc {α : Type} (n : Nat) (a : α) : List.replicate n a ++ [a] = List.replicate (n + 1) a := by
 rw [← List.replicate_succ']
def RNewPost (n : Nat) (W : World) (e : Ending) (W' : World) : Prop := ∃ v, e = .returned (.tuple #[v, .int .i64 0]) ∧ RefIs W' (fun k => W.heap.size ≤ k) v (newS n) ∧ Below W.heap.size W W'
set_option maxHeartbeats 2000000 in
set_option maxRecDepth 100000 in
theorem rnew_calls (W : World) (n : Nat) (h1 : 1 ≤ n) (h2 : n ≤ 1155) :
  Calls Try.prog 18 #[.int .i64 n] W fun e W' => RNewPost n W e W' := by
 have hd1 : decide ((n : Int) < 1) = false := decide_eq_false (by omega)
 have hd2 : decide (1155 < (n : Int)) = false := decide_eq_false (by omega)
 have hn1 : (n : Int) ≤ 1155 := by omega
 go_enter Try.func18, Try.ntmps18
 go_wp2_with fail
 obtain ⟨f0, f1, f2, fb'⟩ := three W (.cells #[.slice none 0 0, .slice none 0 0, .slice none 0 0, .slice none 0 0, .bool false, .int .i64 0, .slice none 0 0] 31) (.cells #[.int .i64 0, .int .i64 0, .int .i64 0, .int .i64 0, .int .i64 0] 3) (.cells #[.slice none 0 0, .slice none 0 0, .slice none 0 0, .slice (some ⟨W.heap.size + 1, 0, none⟩) 5 5, .bool false, .int .i64 (-1), .slice none 0 0] 31)
 obtain ⟨W3, hW3⟩ : ∃ W3, W3 = ((W.alloc (.cells #[.slice none 0 0, .slice none 0 0, .slice none 0 0, .slice none 0 0, .bool false, .int .i64 0, .slice none 0 0] 31)).alloc (.cells #[.int .i64 0, .int .i64 0, .int .i64 0, .int .i64 0, .int .i64 0] 3)).alloc (.cells #[.slice none 0 0, .slice none 0 0, .slice none 0 0, .slice (some ⟨W.heap.size + 1, 0, none⟩) 5 5, .bool false, .int .i64 (-1), .slice none 0 0] 31) := ⟨_, rfl⟩
 rw [← hW3] at f0 f1 f2 fb' ⊢
 obtain ⟨rb, hrb⟩ : ∃ rb, rb = W.heap.size := ⟨_, rfl⟩
 obtain ⟨fb, hfb⟩ : ∃ fb, fb = W.heap.size + 1 := ⟨_, rfl⟩
 obtain ⟨gb, hgb⟩ : ∃ gb, gb = W.heap.size + 1 + 1 := ⟨_, rfl⟩
 have hlr : W.heap.size ≤ rb := by omega
 have hlf : W.heap.size ≤ fb := by omega
 have hlg : W.heap.size ≤ gb := by omega
 have ne1 : rb ≠ gb := by omega
 have ne2 : gb ≠ rb := by omega
 rw [← hgb] at f2 ⊢
 rw [← hfb] at f1 f2 ⊢
 rw [← hrb] at f0
 rw [show (Value.pointer (some ⟨W.heap.size, 0, none⟩)) = .pointer (some ⟨rb, 0, none⟩) by rw [hrb]]
 have F0 := Aside0.mk f0
 have F1 := Aside0.mk (show W3.heap[fb]? = some (.cells (ints [0, 0, 0, 0, 0]) 3 (0, 0)) from f1)
 have F2 := Aside0.mk f2
 have FB := Aside0.mk fb'
 clear f0 f1 f2 fb' hW3 hrb hfb hgb
 go_loopg [5] n (fun gg s5 wr => ∃ (j : Nat) (v0 v1 : Value), s5 = .int .i64 j ∧ j ≤ n ∧ n - j ≤ gg ∧ Aside0 (wr.heap[gb]? = some (.cells #[v0, v1, .slice none 0 0, .slice (some ⟨fb, 0, none⟩) 5 5, .bool false, .int .i64 (-1), .slice none 0 0] 31 (0, 0))) ∧ Aside0 (wr.heap[rb]? = some (.cells #[.slice none 0 0, .slice none 0 0, .slice none 0 0, .slice none 0 0, .bool false, .int .i64 0, .slice none 0 0] 31 (0, 0))) ∧ Aside0 (wr.heap[fb]? = some (.cells (ints [0, 0, 0, 0, 0]) 3 (0, 0))) ∧ Aside0 (Kd.R Kd.string 9 wr W.heap.size (fun k => W.heap.size ≤ k) v0 (List.replicate j zeros140)) ∧ Aside0 (Kd.R kNil 26 wr W.heap.size (fun k => W.heap.size ≤ k) v1 (List.replicate j ())) ∧ Aside0 (Below W.heap.size W wr))
 case atStart => exact ⟨0, .slice none 0 0, .slice none 0 0, by go_num, Nat.zero_le _, by omega, F2, F0, F1, ⟨Kd.R_nil _ _ _ _ _⟩, ⟨Kd.R_nil _ _ _ _ _⟩, FB⟩
 case round =>
  clear F0 F1 F2 FB
  obtain ⟨j, v0, v1, rfl, hj, hgg, HG, HRB, HF, H0, H1, HB⟩ := hrel
  obtain ⟨A0, c0, hv0, _, _⟩ := Kd.R_reads H0.out
  obtain ⟨A1, c1, hv1, _, _⟩ := Kd.R_reads H1.out
  rw [List.length_replicate] at hv0 hv1
  subst hv0
  subst hv1
  have hbr : W.heap.size ≤ wr.heap.size := HB.out.size
  have g0 : wr.cell? ⟨gb, 0, none⟩ = some (.slice A0 j c0) := by rw [blk_cell HG.out]; rfl
  have lgb : gb < wr.heap.size := blk_lt HG.out
  by_cases hlt : j < n
  ·have hltz : (j : Int) < (n : Int) := by omega
   go_wp2_with fail
   refine start_ (n := 7) (S := fun w' => w'.cell? ⟨gb, 0, none⟩ = some (.slice A0 j c0)) (ds := [4, 6]) #[false, false, false, false, false, false, false] (by kernel_rfl) rfl rfl (g0) (fun hHeld => ?_)
   refine pure_ (i := 0) (N := some 20) (v := ?_) (a' := ?_) #[true, false, false, false, false, false, false] rfl rfl (by kernel_rfl) (fun _ _ _ h => h) (Or.inl ⟨by rfl, ?_⟩) ?_ ?_
   rotate_left
   ·intro w'
    go_simp
    with_reducible rfl
   rotate_left
   ·simp only [Act.put, List.setIfInBounds_toArray, List.set_cons_zero, List.set_cons_succ, i64_w, i32_w]
    rfl
   refine take_ (i := 1) (N := some 21) (v := ?_) (a' := ?_) #[true, true, false, false, false, false, false] rfl rfl (by kernel_rfl) (fun _ _ _ h => h) (Or.inl ⟨by rfl, ?_⟩) hHeld ?_ ?_
   rotate_left
   ·intro w' s0
    go_simp
    with_reducible rfl
   rotate_left
   ·simp only [Act.put, List.setIfInBounds_toArray, List.set_cons_zero, List.set_cons_succ, i64_w, i32_w]
    rfl
   refine one_ (i := 2) (N := some 22) #[true, true, true, false, false, false, false] rfl rfl (by kernel_rfl) (by decide) (fun K hK => ?_)
   refine goes_ Try.func47 (by kernel_rfl) rfl #[.string ⟨#[]⟩, .int .i64 140] (by rfl) rfl rfl (by simp only [List.map_toArray, List.map_cons, List.map_nil]; rfl) ?_
   with_reducible refine (padded_calls _).mono ?_
   rintro e w3 ⟨rfl, hb3⟩
   refine ⟨_, rfl, ?_⟩
   have HB3 := Aside0.mk (show Below wr.heap.size wr w3 from ((Below.refl wr.heap.size wr).drew).trans hb3)
   clear hb3
   refine hK.out _ _ (((HB3.out.cell (p := ⟨gb, 0, none⟩) lgb).trans g0)) (fun hHeld => ?_)
   clear hK K
   refine norm_ (a' := ?_) ?_ ?_
   rotate_left
   ·show Act.put _ (some 22) _ = _
    simp only [Act.put, List.setIfInBounds_toArray, List.set_cons_zero, List.set_cons_succ, i64_w, i32_w]
    rfl
   refine one_ (i := 3) (N := some 23) #[true, true, true, true, false, false, false] rfl rfl (by kernel_rfl) (by decide) (fun K hK => ?_)
   refine value_ (w1 := ?_) (v := ?_) (by rfl) rfl ?_ ?_
   rotate_left 2
   ·go_simp
    constructor
    ·rfl
    ·rfl
   refine hK.out _ _ (((blk_cell (blk_alloc (blk_below HG.out HB3.out) _) 0).trans rfl)) (fun hHeld => ?_)
   clear hK K
   refine norm_ (a' := ?_) ?_ ?_
   rotate_left
   ·show Act.put _ (some 23) _ = _
    simp only [Act.put, List.setIfInBounds_toArray, List.set_cons_zero, List.set_cons_succ, i64_w, i32_w]
    rfl
   refine last_ (i := 4) (N := some 24) #[true, true, true, true, true, false, false] rfl rfl (by kernel_rfl) (by decide) (fun K hK => ?_)
   have hr3 := Kd.R_below H0.out HB3.out
   refine Kd.R_append_step Kd.string (w0 := W) (W := w3) W.heap.size (by rfl) (.tmp 21) (.tmp 23) 26 9 (.string ⟨#[]⟩) 16 rfl Try.underlying26 info9 rfl (by decide) (by omega) (.slice A0 j c0) (List.replicate j zeros140) zeros140 [.string zeros140] (fun k => W.heap.size ≤ k) (fun _ => False) rfl rfl rfl (fun _ h => h.elim) (fun k hk => Nat.le_trans hbr (Nat.le_trans HB3.out.size hk)) hr3 (HB.out.trans (HB3.out.mono hbr)) (Nat.le_trans hbr HB3.out.size) (by rw [List.length_replicate]; omega) ?_
   intro v4 w4 hR4 hb4 hg4 hat4
   rw [replicate_snoc] at hR4
   obtain ⟨A4, c4, hv4, _, _⟩ := Kd.R_reads hR4
   rw [List.length_replicate] at hv4
   subst hv4
   have hG4 := blk_grown (blk_below HG.out HB3.out) hg4 (fun e => Kd.R_ne hr3 (blk_below HG.out HB3.out) (by decide) e)
   have hRB4 := blk_grown (blk_below HRB.out HB3.out) hg4 (fun e => Kd.R_ne hr3 (blk_below HRB.out HB3.out) (by decide) e)
   have hF4 := blk_grown (blk_below HF.out HB3.out) hg4 (fun e => Kd.R_ne hr3 (blk_below HF.out HB3.out) (by decide) e)
   have h14 := Kd.R_over (Kd.R_below H1.out HB3.out) hr3 (by decide) hg4
   have g4 : w4.cell? ⟨gb, 0, none⟩ = some (.slice A0 j c0) := by rw [blk_cell hG4]; rfl
   have fg4 : w4.frozen? ⟨gb, 0, none⟩ = false := blk_frozen hG4 0
   have HR4 := Aside0.mk hR4
   have HB4 := Aside0.mk hb4
   have HG4 := Aside0.mk hG4
   have HRB4 := Aside0.mk hRB4
   have HF4 := Aside0.mk hF4
   have H14 := Aside0.mk h14
   clear hr3 hR4 hb4 hg4 hat4 hG4 hRB4 hF4 h14
   refine hK.out _ _ ?_
   clear hK K
   refine norm_ (a' := ?_) ?_ ?_
   rotate_left
   ·show Act.put _ (some 24) _ = _
    simp only [Act.put, List.setIfInBounds_toArray, List.set_cons_zero, List.set_cons_succ, i64_w, i32_w]
    rfl
   refine pure_ (i := 5) (N := some 25) (v := ?_) (a' := ?_) #[true, true, true, true, true, true, false] rfl rfl (by kernel_rfl) (fun _ _ _ h => h) (Or.inl ⟨by rfl, ?_⟩) ?_ ?_
   rotate_left
   ·intro w'
    go_simp
    with_reducible rfl
   rotate_left
   ·simp only [Act.put, List.setIfInBounds_toArray, List.set_cons_zero, List.set_cons_succ, i64_w, i32_w]
    rfl
   refine last_ (i := 6) (N := none) #[true, true, true, true, true, true, true] rfl rfl (by kernel_rfl) (by decide) (fun K hK => ?_)
   refine skip_ (w1 := ?_) (by rfl) rfl ?_ ?_
   rotate_left
   ·go_simp
    rfl
   refine hK.out _ _ ?_
   clear hK K
   refine done_ (by kernel_rfl) ?_
   obtain ⟨w5, hw5⟩ : ∃ w5, w5 = w4.setCell ⟨gb, 0, none⟩ (.slice A4 (j + 1) c4) := ⟨_, rfl⟩
   have hG5 : w5.heap[gb]? = some (.cells #[.slice A4 (j + 1) c4, .slice A1 j c1, .slice none 0 0, .slice (some ⟨fb, 0, none⟩) 5 5, .bool false, .int .i64 (-1), .slice none 0 0] 31 (0, 0)) := by rw [hw5]; exact blk_put HG4.out 0 _ (by rfl)
   have hfar : ∀ k, k ≠ gb → w5.heap[k]? = w4.heap[k]? := fun k hk => by rw [hw5]; exact Below.heap_setCell _ _ _ _ hk
   have HRB5 := Aside0.mk ((hfar rb ne1).trans HRB4.out)
   have HF5 := Aside0.mk ((hfar fb (blk_ne HF4.out HG4.out (by decide))).trans HF4.out)
   have HR5 := Aside0.mk (Kd.R_mono (Kd.R_step (Kd.R_types HR4.out HG4.out (by decide)) (fun k hk _ => hfar k hk.2)) (fun k hk => hk.1))
   have H15 := Aside0.mk (Kd.R_mono (Kd.R_step (Kd.R_types H14.out HG4.out (by decide)) (fun k hk _ => hfar k hk.2)) (fun k hk => hk.1))
   have HB5 := Aside0.mk (show Below W.heap.size W w5 by rw [hw5]; exact HB4.out.setCell hlg _)
   have g51 : w5.cell? ⟨gb, 1, none⟩ = some (.slice A1 j c1) := by rw [blk_cell hG5]; rfl
   have hbr5 : W.heap.size ≤ w5.heap.size := HB5.out.size
   have HG5 := Aside0.mk hG5
   rw [← hw5]
   clear hw5 hG5 hfar HG4 HRB4 HF4 HR4 H14 HB4 g4 fg4
   go_wp2_with (at_builtin; with_reducible refine stopHere ?_)
   refine ⟨?_⟩
   refine Kd.R_append kNil (w0 := W) W.heap.size rfl (.tmp 27) (.tmp 28) 27 26 (.slice none 0 0) 24 rfl Try.underlying27 info26 rfl (by decide) (by omega) (.slice A1 j c1) (List.replicate j ()) () [.slice none 0 0] (fun k => W.heap.size ≤ k) (fun _ => False) rfl rfl rfl (fun _ h => h.elim) (fun k hk => Nat.le_trans hbr5 hk) H15.out HB5.out hbr5 (by rw [List.length_replicate]; omega) ?_
   intro v6 w6 hR6 hb6 hg6 hat6
   rw [replicate_snoc] at hR6
   obtain ⟨A6, c6, hv6, _, _⟩ := Kd.R_reads hR6
   rw [List.length_replicate] at hv6
   subst hv6
   have hG6 := blk_grown HG5.out hg6 (fun e => Kd.R_ne H15.out HG5.out (by decide) e)
   have HRB6 := Aside0.mk (blk_grown HRB5.out hg6 (fun e => Kd.R_ne H15.out HRB5.out (by decide) e))
   have HF6 := Aside0.mk (blk_grown HF5.out hg6 (fun e => Kd.R_ne H15.out HF5.out (by decide) e))
   have HR6 := Aside0.mk (Kd.R_over HR5.out H15.out (by decide) hg6)
   have H16 := Aside0.mk hR6
   have HB6 := Aside0.mk hb6
   have g61 : w6.cell? ⟨gb, 1, none⟩ = some (.slice A1 j c1) := by rw [blk_cell hG6]; rfl
   have fg6 : w6.frozen? ⟨gb, 1, none⟩ = false := blk_frozen hG6 1
   have HG6 := Aside0.mk hG6
   clear hR6 hb6 hg6 hat6 hG6 HG5 HRB5 HF5 HR5 H15 HB5
   go_wp2_with fail
   go_roundg (n - (j + 1))
   case measure => omega
   case rel =>
    have hfar : ∀ k, k ≠ gb → (w6.setCell ⟨gb, 1, none⟩ (.slice A6 (j + 1) c6)).heap[k]? = w6.heap[k]? := fun k hk => Below.heap_setCell _ _ _ _ hk
    exact ⟨j + 1, .slice A4 (j + 1) c4, .slice A6 (j + 1) c6, by go_num, by omega, Nat.le_refl _, ⟨blk_put HG6.out 1 _ (by rfl)⟩, ⟨(hfar rb ne1).trans HRB6.out⟩, ⟨(hfar fb (blk_ne HF6.out HG6.out (by decide))).trans HF6.out⟩,
     ⟨Kd.R_mono (Kd.R_step (Kd.R_types HR6.out HG6.out (by decide)) (fun k hk _ => hfar k hk.2)) (fun k hk => hk.1)⟩, ⟨Kd.R_mono (Kd.R_step (Kd.R_types H16.out HG6.out (by decide)) (fun k hk _ => hfar k hk.2)) (fun k hk => hk.1)⟩, ⟨HB6.out.setCell hlg _⟩⟩
  ·obtain rfl : j = n := by omega
   have hG := HG.out
   have k1 : wr.cell? ⟨gb, 1, none⟩ = some (.slice A1 j c1) := by rw [blk_cell hG]; rfl
   have k2 : wr.cell? ⟨gb, 2, none⟩ = some (.slice none 0 0) := by rw [blk_cell hG]; rfl
   have k3 : wr.cell? ⟨gb, 3, none⟩ = some (.slice (some ⟨fb, 0, none⟩) 5 5) := by rw [blk_cell hG]; rfl
   have k4 : wr.cell? ⟨gb, 4, none⟩ = some (.bool false) := by rw [blk_cell hG]; rfl
   have k5 : wr.cell? ⟨gb, 5, none⟩ = some (.int .i64 (-1)) := by rw [blk_cell hG]; rfl
   have k6 : wr.cell? ⟨gb, 6, none⟩ = some (.slice none 0 0) := by rw [blk_cell hG]; rfl
   have hR := HRB.out
   obtain ⟨r0, r1, r2, r3, r4, r5, r6⟩ := cells7 hR
   have fr0 := blk_frozen hR 0
   have fr1 := blk_frozen hR 1
   have fr2 := blk_frozen hR 2
   have fr3 := blk_frozen hR 3
   have fr4 := blk_frozen hR 4
   have fr5 := blk_frozen hR 5
   have fr6 := blk_frozen hR 6
   clear hG hR
   go_wp2_with fail
   have hbk := set7_blk HRB.out (.slice A0 j c0) (.slice A1 j c1) (.slice none 0 0) (.slice (some ⟨fb, 0, none⟩) 5 5) (.bool false) (.int .i64 (-1)) (.slice none 0 0)
   refine bodyPost_ret (results_ct rfl _ _ rb 31 #[.slice A0 j c0, .slice A1 j c1, .slice none 0 0, .slice (some ⟨fb, 0, none⟩) 5 5, .bool false, .int .i64 (-1), .slice none 0 0] (0, 0) _ rfl hbk Try.underlying31 rfl (by kernel_rfl)) rfl ?_
   have hfar := set7_far wr rb (.slice A0 j c0) (.slice A1 j c1) (.slice none 0 0) (.slice (some ⟨fb, 0, none⟩) 5 5) (.bool false) (.int .i64 (-1)) (.slice none 0 0)
   refine ⟨_, rfl, ⟨_, _, _, _, _, [0, 0, 0, 0, 0], -1, [], { hv := rfl, h0 := ?_, h1 := ?_, h2 := Kd.V_nil _ _ _ _ _, h3 := ?_, h6 := Kd.V_nil _ _ _ _ _, fl5 := rfl, fok := ?_, uok := ⟨fun _ => rfl, fun z => by cases z⟩ }⟩, set7_below HB.out hlr _ _ _ _ _ _ _⟩
   ·have h := Kd.R_V (base' := 0) (Kd.R_mono (Kd.R_step (Kd.R_types H0.out HRB.out (by decide)) (fun k hk _ => hfar k hk.2)) (fun k hk => hk.1))
    exact h
   ·obtain ⟨A, c, e, hl, hf⟩ := Kd.R_V (base' := 0) (Kd.R_mono (Kd.R_step (Kd.R_types H1.out HRB.out (by decide)) (fun k hk _ => hfar k hk.2)) (fun k hk => hk.1))
    rw [List.length_replicate] at e hl hf
    refine ⟨A, c, ?_, ?_, ?_⟩
    ·rw [e]; show _ = Value.slice A (List.replicate j ([] : List ByteArray)).length c; rw [List.length_replicate]
    ·show (List.replicate j ([] : List ByteArray)).length ≤ c; rw [List.length_replicate]; exact hl
    ·show Kd.F (Kd.slice 9 Kd.string) _ _ A (List.replicate j ([] : List ByteArray)).length (List.replicate j [])
     rw [List.length_replicate]
     exact Kd.F_imp hf (fun W' h => nil_C h)
   ·exact ⟨some ⟨fb, 0, none⟩, 5, rfl, Nat.le_refl _, ints_F ((hfar fb (blk_ne HF.out HRB.out (by decide))).trans HF.out) (by decide) hlf⟩
   ·intro s hs1 hs2
    have e : ([0, 0, 0, 0, 0] : List Int).getD s 0 = 0 := by
     match s with
     | 1 => rfl
     | 2 => rfl
     | 3 => rfl
     | 4 => rfl
     | 0 => rfl
     | s + 5 => omega
    rw [e]
    refine ⟨Int.le_refl _, by decide, fun ep h0 h1 => ⟨fun z => by omega, fun ⟨f, z, _⟩ => by cases z⟩⟩
end Go.Proofs.Ytflajmgichdhhaa.PG
namespace Go.Proofs.Ytflajmgichdhhaa.PG
open Go.RowKit Go.Proofs.YtflajmgichdhhaaW.PrintWords Go.Proofs.YtflajmgichdhhaaW.PrintLast Go.Proofs.YtflajmgichdhhaaW.PrintMore
set_option linter.unusedVariables false
set_option linter.unusedSimpArgs false
section
variable {W : World} {A0 A1 A2 A3 A6 : Option Addr} {n0 c0 n1 c1 n2 c2 n3 c3 n6 c6 : Nat} {fa : Bool} {fu : Int}
set_option maxRecDepth 100000 in
theorem there_ref (W : World) (i : Int) :
  Calls Try.prog 54 #[.agg #[.slice A0 n0 c0, .slice A1 n1 c1, .slice A2 n2 c2, .slice A3 n3 c3, .bool fa, .int .i64 fu, .slice A6 n6 c6], .int .i64 i] W fun e W' => e = .returned (.bool (decide (0 ≤ i ∧ i < (n0 : Int)))) ∧ Below W.heap.size W W' := by
 by_cases h0 : 0 ≤ i
 ·have hd0 : decide (0 ≤ i) = true := decide_eq_true h0
  have hres : decide (0 ≤ i ∧ i < (n0 : Int)) = decide (i < (n0 : Int)) := by simp [h0]
  rw [hres]
  clear hres h0
  go_enter Try.func54, Try.ntmps54
  go_wp2_with fail
  go_ret
  exact ⟨rfl, below_alloc (Below.refl _ _) _⟩
 ·have hd0 : decide (0 ≤ i) = false := decide_eq_false h0
  have hres : decide (0 ≤ i ∧ i < (n0 : Int)) = false := by simp [h0]
  rw [hres]
  clear hres h0
  go_enter Try.func54, Try.ntmps54
  go_wp2_with fail
  go_ret
  exact ⟨rfl, below_alloc (Below.refl _ _) _⟩
theorem row_at {w : World} {A : Option Addr} {n : Nat} {xs : List (List ByteArray)} (h : Kd.C (Kd.slice 9 Kd.string) w A n xs) (i : Nat) (hi : i < n) :
  ∃ ad Ai ci, A = some ad ∧ w.cell? (ad.add i) = some (.slice Ai (xs.getD i []).length ci) ∧ (xs.getD i []).length ≤ ci ∧ Kd.C Kd.string w Ai (xs.getD i []).length (xs.getD i []) := by
 obtain ⟨h1, h2, h3⟩ := h
 obtain ⟨ad, e, hc⟩ := h3 (by omega)
 obtain ⟨c, c1, c2, c3⟩ := hc i (xs.getD i []) (by rw [List.getD_eq_getElem?_getD, List.getElem?_eq_getElem (by omega)]; rfl)
 obtain ⟨Ai, ci, rfl, k1, k2⟩ := c2
 have := c3 0 _ rfl
 exact ⟨ad, Ai, ci, e, by simpa [show (Kd.slice 9 Kd.string).sz = 1 from rfl] using this, k1, k2⟩
set_option maxRecDepth 100000 in
theorem earlier_ref (W : World) (ol : List (List ByteArray)) (hC : Kd.C (Kd.slice 9 Kd.string) W A1 ol.length ol) (hl : ol.length = n0) (i : Int) :
  Calls Try.prog 42 #[.agg #[.slice A0 n0 c0, .slice A1 ol.length c1, .slice A2 n2 c2, .slice A3 n3 c3, .bool fa, .int .i64 fu, .slice A6 n6 c6], .int .i64 i] W fun e W' => e = .returned (.int .i64 (if 0 ≤ i ∧ i < (n0 : Int) then ((ol.getD i.toNat []).length : Int) else 0)) ∧ Below W.heap.size W W' := by
 have HT := Aside0.mk (fun W => there_ref (A0 := A0) (A1 := A1) (A2 := A2) (A3 := A3) (A6 := A6) (n0 := n0) (c0 := c0) (n1 := ol.length) (c1 := c1) (n2 := n2) (c2 := c2) (n3 := n3) (c3 := c3) (n6 := n6) (c6 := c6) (fa := fa) (fu := fu) W i)
 by_cases h : 0 ≤ i ∧ i < (n0 : Int)
 ·rw [if_pos h]
  rw [decide_eq_true h] at HT
  obtain ⟨n, rfl⟩ := Int.eq_ofNat_of_zero_le h.1
  have hn : n < ol.length := by omega
  have hnz : ((n : Nat) : Int) < (ol.length : Int) := by omega
  have HC := Aside0.mk hC
  have HN := Aside0.mk hn
  clear h hl hC
  rw [Int.toNat_natCast]
  obtain ⟨m, hm⟩ : ∃ m, m = (ol.getD n []).length := ⟨_, rfl⟩
  rw [← hm]
  have HM := Aside0.mk hm
  clear hm
  go_enter Try.func42, Try.ntmps42
  go_wp2_with fail
  obtain ⟨bx, hbx⟩ : ∃ bx, bx = W.heap.size := ⟨_, rfl⟩
  obtain ⟨w1, hw⟩ : ∃ w1, w1 = W.alloc (.cells #[.slice A0 n0 c0, .slice A1 ol.length c1, .slice A2 n2 c2, .slice A3 n3 c3, .bool fa, .int .i64 fu, .slice A6 n6 c6] 31) := ⟨_, rfl⟩
  have hx : w1.heap[bx]? = some (.cells #[.slice A0 n0 c0, .slice A1 ol.length c1, .slice A2 n2 c2, .slice A3 n3 c3, .bool fa, .int .i64 fu, .slice A6 n6 c6] 31 (0, 0)) := by rw [hw, hbx]; exact blk_new _ _
  have hb : Below W.heap.size W w1 := by rw [hw]; exact below_alloc (Below.refl _ _) _
  rw [← hw, ← hbx]
  obtain ⟨k0, k1, k2, k3, k4, k5, k6⟩ := cells7 hx
  have HX := Aside0.mk hx
  have HB := Aside0.mk hb
  clear hw hx hb hbx
  refine (HT.out w1).mono ?_
  rintro e w2 ⟨rfl, hb⟩
  clear k0 k1 k2 k3 k4 k5 k6
  have hx := blk_below HX.out hb
  obtain ⟨k0, k1, k2, k3, k4, k5, k6⟩ := cells7 hx
  have hb2 := HB.out.trans (hb.mono HB.out.size)
  clear hb HX HB
  have HX := Aside0.mk hx
  have HB := Aside0.mk hb2
  clear hx hb2
  obtain ⟨ad, Ai, ci, e, q0, q1, q2⟩ := row_at (Kd.C_below HC.out HB.out) n HN.out
  subst e
  rw [← HM.out] at q0
  clear q1 q2 hn
  go_wp2_with fail
  go_ret
  exact ⟨rfl, HB.out⟩
 ·rw [if_neg h]
  rw [decide_eq_false h] at HT
  clear h hl hC
  go_enter Try.func42, Try.ntmps42
  go_wp2_with fail
  obtain ⟨bx, hbx⟩ : ∃ bx, bx = W.heap.size := ⟨_, rfl⟩
  obtain ⟨w1, hw⟩ : ∃ w1, w1 = W.alloc (.cells #[.slice A0 n0 c0, .slice A1 ol.length c1, .slice A2 n2 c2, .slice A3 n3 c3, .bool fa, .int .i64 fu, .slice A6 n6 c6] 31) := ⟨_, rfl⟩
  have hx : w1.heap[bx]? = some (.cells #[.slice A0 n0 c0, .slice A1 ol.length c1, .slice A2 n2 c2, .slice A3 n3 c3, .bool fa, .int .i64 fu, .slice A6 n6 c6] 31 (0, 0)) := by rw [hw, hbx]; exact blk_new _ _
  have hb : Below W.heap.size W w1 := by rw [hw]; exact below_alloc (Below.refl _ _) _
  rw [← hw, ← hbx]
  obtain ⟨k0, k1, k2, k3, k4, k5, k6⟩ := cells7 hx
  have HX := Aside0.mk hx
  have HB := Aside0.mk hb
  clear hw hx hb hbx
  refine (HT.out w1).mono ?_
  rintro e w2 ⟨rfl, hb⟩
  clear k0 k1 k2 k3 k4 k5 k6
  have hx := blk_below HX.out hb
  obtain ⟨k0, k1, k2, k3, k4, k5, k6⟩ := cells7 hx
  have hb2 := HB.out.trans (hb.mono HB.out.size)
  clear hb HX HB
  have HX := Aside0.mk hx
  have HB := Aside0.mk hb2
  clear hx hb2
  go_wp2_with fail
  go_ret
  exact ⟨rfl, HB.out⟩
set_option maxRecDepth 100000 in
theorem content_ref (W : World) (st : List ByteArray) (pd : List S99) (hC0 : Kd.C Kd.string W A0 st.length st) (hC2 : Kd.C k99 W A2 pd.length pd) (hpl : pd.length ≤ 1000000) (n : Nat) (hn : n < st.length) :
  Calls Try.prog 58 #[.agg #[.slice A0 st.length c0, .slice A1 n1 c1, .slice A2 pd.length c2, .slice A3 n3 c3, .bool fa, .int .i64 fu, .slice A6 n6 c6], .int .i64 n] W fun e W' => e = .returned (.string ((lastOf n pd).getD (st.getD n ⟨#[]⟩))) ∧ Below W.heap.size W W' := by
 have HC0 := Aside0.mk hC0
 have HC2 := Aside0.mk hC2
 have hnz : ((n : Nat) : Int) < (st.length : Int) := by omega
 have HN := Aside0.mk hn
 clear hC0 hC2 hn
 go_enter Try.func58, Try.ntmps58
 go_wp2_with fail
 obtain ⟨bx, hbx⟩ : ∃ bx, bx = W.heap.size := ⟨_, rfl⟩
 obtain ⟨w1, hw⟩ : ∃ w1, w1 = W.alloc (.cells #[.slice A0 st.length c0, .slice A1 n1 c1, .slice A2 pd.length c2, .slice A3 n3 c3, .bool fa, .int .i64 fu, .slice A6 n6 c6] 31) := ⟨_, rfl⟩
 have hx : w1.heap[bx]? = some (.cells #[.slice A0 st.length c0, .slice A1 n1 c1, .slice A2 pd.length c2, .slice A3 n3 c3, .bool fa, .int .i64 fu, .slice A6 n6 c6] 31 (0, 0)) := by rw [hw, hbx]; exact blk_new _ _
 have hb : Below W.heap.size W w1 := by rw [hw]; exact below_alloc (Below.refl _ _) _
 rw [← hw, ← hbx]
 obtain ⟨k0, k1, k2, k3, k4, k5, k6⟩ := cells7 hx
 have HX := Aside0.mk hx
 have HB := Aside0.mk hb
 clear hw hx hb hbx
 go_loop [5] (fun t => ∃ k : Nat, t = .int .i64 ((k : Int) - 1) ∧ k ≤ pd.length ∧ Aside0 (lastOf n pd = lastOf n (pd.take k))) (fun t => (intOf t + 1).toNat)
 case atStart => exact ⟨pd.length, rfl, Nat.le_refl _, ⟨by rw [List.take_length]⟩⟩
 case round =>
  obtain ⟨k, rfl, hk, HL⟩ := hrel
  cases k with
  | zero =>
   rw [show (((0 : Nat) : Int) - 1) = -1 from rfl]
   obtain ⟨ad, e, q0⟩ := Kd.at_string (Kd.C_below HC0.out HB.out) (n : Int) (by omega) hnz
   rw [Int.toNat_natCast, show rdOf ByteArray.empty st (n : Int) = st.getD n ⟨#[]⟩ by unfold rdOf; rw [Int.toNat_natCast]; rfl] at q0
   obtain ⟨x, hx⟩ : ∃ x, x = st.getD n ⟨#[]⟩ := ⟨_, rfl⟩
   rw [← hx] at q0
   have HXX := Aside0.mk hx
   subst e
   clear hx
   go_wp2_with fail
   go_ret
   refine ⟨?_, HB.out⟩
   have e1 := HL.out
   rw [List.take_zero] at e1
   rw [e1, HXX.out]
   rfl
  | succ j =>
   rw [show (((j + 1 : Nat) : Int) - 1) = (j : Int) from by omega]
   have hjl : (j : Int) < (pd.length : Int) := by omega
   obtain ⟨ad, e, q0, q1, q2⟩ := at_T99 (Kd.C_below HC2.out HB.out) (j : Int) (by omega) hjl
   rw [rdT99_at _ j (by omega)] at q0 q1 q2
   cases e
   rw [Int.toNat_natCast] at q0 q1 q2
   have hs := lastOf_step n pd j (by omega)
   obtain ⟨w, hw⟩ : ∃ w, w = pd[j]'(by omega) := ⟨_, rfl⟩
   rw [← hw] at q0 q1 q2 hs
   have HS := Aside0.mk hs
   clear hs hw
   by_cases hq : w.f1 = (n : Int)
   ·have hb : (w.f1 == (n : Int)) = true := by rw [hq]; simp
    have HQ := Aside0.mk hq
    clear hq
    go_wp2_with fail
    go_ret
    refine ⟨?_, HB.out⟩
    have e1 := HL.out
    have e2 := HS.out
    rw [if_pos HQ.out] at e2
    rw [e1, e2]
    rfl
   ·have hb : (w.f1 == (n : Int)) = false := by simpa using hq
    have HQ := Aside0.mk hq
    clear hq
    go_wp2_with fail
    go_round
    case rel =>
     refine ⟨j, rfl, by omega, ⟨?_⟩⟩
     rw [HL.out, HS.out, if_neg HQ.out]
    case measure => simp [intOf]
set_option maxRecDepth 100000 in
theorem waiting_ref (W : World) (pd : List S99) (hC2 : Kd.C k99 W A2 pd.length pd) (hpl : pd.length ≤ 1000000) (sys : Int) :
  Calls Try.prog 43 #[.agg #[.slice A0 n0 c0, .slice A1 n1 c1, .slice A2 pd.length c2, .slice A3 n3 c3, .bool fa, .int .i64 fu, .slice A6 n6 c6], .int .i64 sys] W fun e W' => e = .returned (.int .i64 ((pd.filter (isOf sys)).length : Int)) ∧ Below W.heap.size W W' := by
 have HC2 := Aside0.mk hC2
 clear hC2
 go_enter Try.func43, Try.ntmps43
 go_wp2_with fail
 obtain ⟨bx, hbx⟩ : ∃ bx, bx = W.heap.size := ⟨_, rfl⟩
 obtain ⟨w1, hw⟩ : ∃ w1, w1 = W.alloc (.cells #[.slice A0 n0 c0, .slice A1 n1 c1, .slice A2 pd.length c2, .slice A3 n3 c3, .bool fa, .int .i64 fu, .slice A6 n6 c6] 31) := ⟨_, rfl⟩
 have hx : w1.heap[bx]? = some (.cells #[.slice A0 n0 c0, .slice A1 n1 c1, .slice A2 pd.length c2, .slice A3 n3 c3, .bool fa, .int .i64 fu, .slice A6 n6 c6] 31 (0, 0)) := by rw [hw, hbx]; exact blk_new _ _
 have hb : Below W.heap.size W w1 := by rw [hw]; exact below_alloc (Below.refl _ _) _
 rw [← hw, ← hbx]
 obtain ⟨k0, k1, k2, k3, k4, k5, k6⟩ := cells7 hx
 have HX := Aside0.mk hx
 have HB := Aside0.mk hb
 clear hw hx hb hbx
 go_loop [5, 6] (fun t u => ∃ k : Nat, t = .int .i64 ((((pd.take k).filter (isOf sys)).length : Nat) : Int) ∧ u = .int .i64 (k : Int) ∧ k ≤ pd.length) (fun _ u => (pd.length - intOf u).toNat)
 case atStart => exact ⟨0, rfl, rfl, Nat.zero_le _⟩
 case round =>
  obtain ⟨k, rfl, rfl, hk⟩ := hrel
  by_cases hlt : k < pd.length
  ·have hjl : (k : Int) < (pd.length : Int) := by omega
   obtain ⟨ad, e, q0, q1, q2⟩ := at_T99 (Kd.C_below HC2.out HB.out) (k : Int) (by omega) hjl
   rw [rdT99_at _ k hlt] at q0 q1 q2
   cases e
   rw [Int.toNat_natCast] at q0 q1 q2
   have hs := filter_step (isOf sys) pd k hlt
   obtain ⟨w, hw⟩ : ∃ w, w = pd[k] := ⟨_, rfl⟩
   rw [← hw] at q0 q1 q2 hs
   obtain ⟨m, hm⟩ : ∃ m, m = ((pd.take k).filter (isOf sys)).length := ⟨_, rfl⟩
   have hmk : m ≤ 1000000 := by rw [hm]; exact Nat.le_trans (List.length_filter_le _ _) (by simp; omega)
   rw [← hm] at hs ⊢
   have HS := Aside0.mk hs
   clear hs hw hm
   have q3 : isOf sys w = (w.f0 == sys) := rfl
   rw [q3] at HS
   clear q3
   by_cases hq : w.f0 = sys
   ·have hb : (w.f0 == sys) = true := by rw [hq]; simp
    have HQ := Aside0.mk hb
    clear hq
    go_wp2_with fail
    go_round
    case rel =>
     refine ⟨k + 1, ?_, by go_num, by omega⟩
     rw [HS.out, if_pos HQ.out]
     go_num
    case measure => simp [intOf]; omega
   ·have hb : (w.f0 == sys) = false := by simpa using hq
    have HQ := Aside0.mk hb
    clear hq
    go_wp2_with fail
    go_round
    case rel =>
     refine ⟨k + 1, ?_, by go_num, by omega⟩
     rw [HS.out, HQ.out]
     go_num
    case measure => simp [intOf]; omega
  ·obtain rfl : k = pd.length := by omega
   rw [List.take_length]
   go_wp2_with fail
   go_ret
   exact ⟨rfl, HB.out⟩
end
end Go.Proofs.Ytflajmgichdhhaa.PG
namespace Go.Proofs.Ytflajmgichdhhaa.PG
open Go.RowKit Go.Proofs.YtflajmgichdhhaaW.PrintWords Go.Proofs.YtflajmgichdhhaaW.PrintLast Go.Proofs.YtflajmgichdhhaaW.PrintMore
set_option linter.unusedVariables false
set_option linter.unusedSimpArgs false
structure RefC (W : World) (v : Value) (A0 A1 A2 A3 A6 : Option Addr) (c0 c1 c2 c3 c6 : Nat) (fl : List Int) (fu : Int) (sv : List Int) (S : DevS) : Prop where
  hv : v = .agg #[.slice A0 S.stable.length c0, .slice A1 S.old.length c1, .slice A2 S.pend.length c2, .slice A3 fl.length c3, .bool S.failed, .int .i64 fu, .slice A6 sv.length c6]
  h0 : Kd.C Kd.string W A0 S.stable.length S.stable
  h1 : Kd.C (Kd.slice 9 Kd.string) W A1 S.old.length S.old
  h2 : Kd.C k99 W A2 S.pend.length S.pend
  h3 : Kd.C (Kd.int .i64) W A3 fl.length fl
  h6 : Kd.C (Kd.int .i64) W A6 sv.length sv
  l0 : S.stable.length ≤ c0
  l1 : S.old.length ≤ c1
  l2 : S.pend.length ≤ c2
  l3 : fl.length ≤ c3
  l6 : sv.length ≤ c6
theorem RefIs.open_ {W : World} {ok : Nat → Prop} {v : Value} {S : DevS} (h : RefIs W ok v S) : ∃ A0 A1 A2 A3 A6 c0 c1 c2 c3 c6 fl fu sv, RefC W v A0 A1 A2 A3 A6 c0 c1 c2 c3 c6 fl fu sv S := by
 obtain ⟨v0, v1, v2, v3, v6, fl, fu, sv, h⟩ := h
 obtain ⟨A0, c0, rfl, l0, h0⟩ := h.h0
 obtain ⟨A1, c1, rfl, l1, h1⟩ := h.h1
 obtain ⟨A2, c2, rfl, l2, h2⟩ := h.h2
 obtain ⟨A3, c3, rfl, l3, h3⟩ := h.h3
 obtain ⟨A6, c6, rfl, l6, h6⟩ := h.h6
 exact ⟨A0, A1, A2, A3, A6, c0, c1, c2, c3, c6, fl, fu, sv, ⟨h.hv, Kd.F_now h0, Kd.F_now h1, Kd.F_now h2, Kd.F_now h3, Kd.F_now h6, l0, l1, l2, l3, l6⟩⟩
section
variable {W : World} {v : Value} {A0 A1 A2 A3 A6 : Option Addr} {c0 c1 c2 c3 c6 : Nat} {fl : List Int} {fu : Int} {sv : List Int} {S : DevS}
set_option maxRecDepth 100000 in
theorem read_ref (h : RefC W v A0 A1 A2 A3 A6 c0 c1 c2 c3 c6 fl fu sv S) (hpl : S.pend.length ≤ 1000000) (w : World) (hbw : Below W.heap.size W w) (i : Int) :
  Calls Try.prog 41 #[v, .int .i64 i] w fun e W' => e = .returned (.tuple #[.string (readS S i).1, .int .i64 (readS S i).2]) ∧ Below w.heap.size w W' := by
 obtain rfl := h.hv
 have HT := Aside0.mk (fun W => there_ref (A0 := A0) (A1 := A1) (A2 := A2) (A3 := A3) (A6 := A6) (c0 := c0) (c1 := c1) (c2 := c2) (c3 := c3) (c6 := c6) (n0 := S.stable.length) (n1 := S.old.length) (n2 := S.pend.length) (n3 := fl.length) (n6 := sv.length) (fa := S.failed) (fu := fu) W i)
 unfold readS
 by_cases hi : 0 ≤ i ∧ i < (S.stable.length : Int)
 ·rw [if_pos hi]
  rw [decide_eq_true hi] at HT
  obtain ⟨n, rfl⟩ := Int.eq_ofNat_of_zero_le hi.1
  have hn : n < S.stable.length := by omega
  have HCC := Aside0.mk (fun (w2 : World) (hb : Below w.heap.size w w2) => content_ref (A0 := A0) (A1 := A1) (A2 := A2) (A3 := A3) (A6 := A6) (c0 := c0) (c1 := c1) (c2 := c2) (c3 := c3) (c6 := c6) (n1 := S.old.length) (n3 := fl.length) (n6 := sv.length) (fa := S.failed) (fu := fu) w2 S.stable S.pend (Kd.C_below h.h0 (hbw.trans (hb.mono hbw.size))) (Kd.C_below h.h2 (hbw.trans (hb.mono hbw.size))) hpl n hn)
  rw [show contentS S (n : Int) = (lastOf n S.pend).getD (S.stable.getD n ⟨#[]⟩) by unfold contentS; rw [Int.toNat_natCast]]
  clear h hbw hi hn
  cases hf : S.failed with
  | true =>
   rw [hf] at HT
   clear hf HCC
   rw [if_pos (by simp)]
   go_enter Try.func41, Try.ntmps41
   go_wp2_with fail
   obtain ⟨bx, hbx⟩ : ∃ bx, bx = w.heap.size := ⟨_, rfl⟩
   obtain ⟨w1, hw⟩ : ∃ w1, w1 = w.alloc (.cells #[.slice A0 S.stable.length c0, .slice A1 S.old.length c1, .slice A2 S.pend.length c2, .slice A3 fl.length c3, .bool true, .int .i64 fu, .slice A6 sv.length c6] 31) := ⟨_, rfl⟩
   have hx : w1.heap[bx]? = some (.cells #[.slice A0 S.stable.length c0, .slice A1 S.old.length c1, .slice A2 S.pend.length c2, .slice A3 fl.length c3, .bool true, .int .i64 fu, .slice A6 sv.length c6] 31 (0, 0)) := by rw [hw, hbx]; exact blk_new _ _
   have hb : Below w.heap.size w w1 := by rw [hw]; exact below_alloc (Below.refl _ _) _
   rw [← hw, ← hbx]
   obtain ⟨k0, k1, k2, k3, k4, k5, k6⟩ := cells7 hx
   have HX := Aside0.mk hx
   have HB := Aside0.mk hb
   clear hw hx hb hbx
   refine (HT.out w1).mono ?_
   rintro e w2 ⟨rfl, hb⟩
   clear k0 k1 k2 k3 k4 k5 k6
   have hx := blk_below HX.out hb
   obtain ⟨k0, k1, k2, k3, k4, k5, k6⟩ := cells7 hx
   have hb2 := HB.out.trans (hb.mono HB.out.size)
   clear hb HX HB
   have HX := Aside0.mk hx
   have HB := Aside0.mk hb2
   clear hx hb2
   go_wp2_with fail
   go_ret2
   exact ⟨rfl, HB.out⟩
  | false =>
   rw [hf] at HT HCC
   clear hf
   rw [if_neg (by simp)]
   obtain ⟨x, hx⟩ : ∃ x, x = (lastOf n S.pend).getD (S.stable.getD n ⟨#[]⟩) := ⟨_, rfl⟩
   rw [← hx] at HCC ⊢
   clear hx
   go_enter Try.func41, Try.ntmps41
   go_wp2_with fail
   obtain ⟨bx, hbx⟩ : ∃ bx, bx = w.heap.size := ⟨_, rfl⟩
   obtain ⟨w1, hw⟩ : ∃ w1, w1 = w.alloc (.cells #[.slice A0 S.stable.length c0, .slice A1 S.old.length c1, .slice A2 S.pend.length c2, .slice A3 fl.length c3, .bool false, .int .i64 fu, .slice A6 sv.length c6] 31) := ⟨_, rfl⟩
   have hx : w1.heap[bx]? = some (.cells #[.slice A0 S.stable.length c0, .slice A1 S.old.length c1, .slice A2 S.pend.length c2, .slice A3 fl.length c3, .bool false, .int .i64 fu, .slice A6 sv.length c6] 31 (0, 0)) := by rw [hw, hbx]; exact blk_new _ _
   have hb : Below w.heap.size w w1 := by rw [hw]; exact below_alloc (Below.refl _ _) _
   rw [← hw, ← hbx]
   obtain ⟨k0, k1, k2, k3, k4, k5, k6⟩ := cells7 hx
   have HX := Aside0.mk hx
   have HB := Aside0.mk hb
   clear hw hx hb hbx
   refine (HT.out w1).mono ?_
   rintro e w2 ⟨rfl, hb⟩
   clear k0 k1 k2 k3 k4 k5 k6
   have hx := blk_below HX.out hb
   obtain ⟨k0, k1, k2, k3, k4, k5, k6⟩ := cells7 hx
   have hb2 := HB.out.trans (hb.mono HB.out.size)
   clear hb HX HB
   have HX := Aside0.mk hx
   have HB := Aside0.mk hb2
   clear hx hb2
   go_wp2_with fail
   refine (HCC.out w2 HB.out).mono ?_
   rintro e w3 ⟨rfl, hb⟩
   have HB3 := Aside0.mk (HB.out.trans (hb.mono HB.out.size))
   clear hb HB
   go_wp2_with fail
   go_ret2
   exact ⟨rfl, HB3.out⟩
 ·rw [if_neg hi]
  rw [decide_eq_false hi] at HT
  clear h hbw hi
  go_enter Try.func41, Try.ntmps41
  go_wp2_with fail
  obtain ⟨bx, hbx⟩ : ∃ bx, bx = w.heap.size := ⟨_, rfl⟩
  obtain ⟨w1, hw⟩ : ∃ w1, w1 = w.alloc (.cells #[.slice A0 S.stable.length c0, .slice A1 S.old.length c1, .slice A2 S.pend.length c2, .slice A3 fl.length c3, .bool S.failed, .int .i64 fu, .slice A6 sv.length c6] 31) := ⟨_, rfl⟩
  have hx : w1.heap[bx]? = some (.cells #[.slice A0 S.stable.length c0, .slice A1 S.old.length c1, .slice A2 S.pend.length c2, .slice A3 fl.length c3, .bool S.failed, .int .i64 fu, .slice A6 sv.length c6] 31 (0, 0)) := by rw [hw, hbx]; exact blk_new _ _
  have hb : Below w.heap.size w w1 := by rw [hw]; exact below_alloc (Below.refl _ _) _
  rw [← hw, ← hbx]
  obtain ⟨k0, k1, k2, k3, k4, k5, k6⟩ := cells7 hx
  have HX := Aside0.mk hx
  have HB := Aside0.mk hb
  clear hw hx hb hbx
  refine (HT.out w1).mono ?_
  rintro e w2 ⟨rfl, hb⟩
  clear k0 k1 k2 k3 k4 k5 k6
  have hx := blk_below HX.out hb
  obtain ⟨k0, k1, k2, k3, k4, k5, k6⟩ := cells7 hx
  have hb2 := HB.out.trans (hb.mono HB.out.size)
  clear hb HX HB
  have HX := Aside0.mk hx
  have HB := Aside0.mk hb2
  clear hx hb2
  go_wp2_with fail
  go_ret2
  exact ⟨rfl, HB.out⟩
def Held (W : World) (b : Nat) (o : Obj) (w : World) : Prop := Below W.heap.size W w ∧ w.heap[b]? = some o
theorem Held.on {W w w2 : World} {b : Nat} {o : Obj} (h : Held W b o w) (hb : Below w.heap.size w w2) : Held W b o w2 := ⟨h.1.trans (hb.mono h.1.size), blk_below h.2 hb⟩
theorem Held.drew {W w : World} {b : Nat} {o : Obj} (h : Held W b o w) : Held W b o w.drew := h.on (Below.refl _ _).drew
set_option maxRecDepth 100000 in
set_option maxHeartbeats 1000000 in
theorem same_calls {B : Nat} {L : Lay} {F : Nat → Prop} {k : Nat} {ok : Nat → Prop} (hD : DevIs W B L F S) (hR : RefIs W ok v S) (hF : Fine k S) (hk : k ≤ 1000000) :
  Calls Try.prog 15 #[.pointer (some ⟨L.g, 0, none⟩), v] W fun e W' => e = .returned (.bool true) ∧ Below W.heap.size W W' := by
 obtain ⟨A0, A1, A2, A3, A6, c0, c1, c2, c3, c6, fl, fu, sv, hC⟩ := hR.open_
 obtain rfl := hC.hv
 have hpl : S.pend.length ≤ 1000000 := Nat.le_trans hF.plen hk
 have hn1 := hF.n1
 have HSE := Aside0.mk (fun (w : World) (hb : Below W.heap.size W w) => by obtain ⟨vs, pv, uv, m, h⟩ := hD.below hb; exact sectors_calls h)
 have HFA := Aside0.mk (fun (w : World) (hb : Below W.heap.size W w) => by obtain ⟨vs, pv, uv, m, h⟩ := hD.below hb; exact failed_calls h)
 have HRD := Aside0.mk (fun (w : World) (hb : Below W.heap.size W w) => readI (hD.below hb) hpl)
 have HPE := Aside0.mk (fun (w : World) (hb : Below W.heap.size W w) => pendI (hD.below hb) hpl)
 have HOL := Aside0.mk (fun (w : World) (hb : Below W.heap.size W w) => oldI (hD.below hb) hF.len)
 have HRR := Aside0.mk (fun (w : World) (hb : Below W.heap.size W w) => read_ref hC hpl w hb)
 have HRE := Aside0.mk (fun (w : World) (hb : Below W.heap.size W w) (i : Int) => show Calls Try.prog 42 #[.agg #[.slice A0 S.stable.length c0, .slice A1 S.old.length c1, .slice A2 S.pend.length c2, .slice A3 fl.length c3, .bool S.failed, .int .i64 fu, .slice A6 sv.length c6], .int .i64 i] w fun e W' => e = .returned (.int .i64 (oldN S i)) ∧ Below w.heap.size w W' from earlier_ref (A0 := A0) (A1 := A1) (A2 := A2) (A3 := A3) (A6 := A6) (c0 := c0) (c1 := c1) (c2 := c2) (c3 := c3) (c6 := c6) (n0 := S.stable.length) (n2 := S.pend.length) (n3 := fl.length) (n6 := sv.length) (fa := S.failed) (fu := fu) w S.old (Kd.C_below hC.h1 hb) hF.len i)
 have HRW := Aside0.mk (fun (w : World) (hb : Below W.heap.size W w) => waiting_ref (A0 := A0) (A1 := A1) (A2 := A2) (A3 := A3) (A6 := A6) (c0 := c0) (c1 := c1) (c2 := c2) (c3 := c3) (c6 := c6) (n0 := S.stable.length) (n1 := S.old.length) (n3 := fl.length) (n6 := sv.length) (fa := S.failed) (fu := fu) w S.pend (Kd.C_below hC.h2 hb) hpl)
 have HPB := Aside0.mk (fun i => show pendN S i ≤ 1000000 from Nat.le_trans (List.length_filter_le _ _) hpl)
 clear hD hR hC hF hpl
 have HW0 := Aside0.mk hn1
 obtain ⟨n0, hn0⟩ : ∃ n0, n0 = S.stable.length := ⟨_, rfl⟩
 obtain ⟨n1, hn1'⟩ : ∃ n1, n1 = S.old.length := ⟨_, rfl⟩
 obtain ⟨n2, hn2⟩ : ∃ n2, n2 = S.pend.length := ⟨_, rfl⟩
 obtain ⟨fa, hfa⟩ : ∃ fa, fa = S.failed := ⟨_, rfl⟩
 rw [← hn0] at HSE HRR HRE HRW hn1
 rw [← hn1'] at HRR HRE HRW
 rw [← hn2] at HRR HRE HRW
 rw [← hfa] at HFA HRR HRE HRW
 rw [← hn0, ← hn1', ← hn2, ← hfa]
 clear hn0 hn1' hn2 hfa HW0
 have nf : (fa != fa) = false := by simp
 have nn : ((n0 : Int) != (n0 : Int)) = false := by simp
 go_enter Try.func15, Try.ntmps15
 go_wp2_with fail
 obtain ⟨bx, hbx⟩ : ∃ bx, bx = W.heap.size := ⟨_, rfl⟩
 obtain ⟨w1, hw⟩ : ∃ w1, w1 = W.alloc (.cells #[.slice A0 n0 c0, .slice A1 n1 c1, .slice A2 n2 c2, .slice A3 fl.length c3, .bool fa, .int .i64 fu, .slice A6 sv.length c6] 31) := ⟨_, rfl⟩
 have hx : w1.heap[bx]? = some (.cells #[.slice A0 n0 c0, .slice A1 n1 c1, .slice A2 n2 c2, .slice A3 fl.length c3, .bool fa, .int .i64 fu, .slice A6 sv.length c6] 31 (0, 0)) := by rw [hw, hbx]; exact blk_new _ _
 have hb : Below W.heap.size W w1 := by rw [hw]; exact below_alloc (Below.refl _ _) _
 rw [← hw, ← hbx]
 obtain ⟨k0, k1, k2, k3, k4, k5, k6⟩ := cells7 hx
 have HX := Aside0.mk hx
 have HB := Aside0.mk hb
 clear hw hx hb hbx
 have HK0 := Aside0.mk (fun w (h : Held W bx (.cells #[.slice A0 n0 c0, .slice A1 n1 c1, .slice A2 n2 c2, .slice A3 fl.length c3, .bool fa, .int .i64 fu, .slice A6 sv.length c6] 31) w) => (show w.cell? ⟨bx, 0, none⟩ = some (.slice A0 n0 c0) by rw [blk_cell h.2]; rfl))
 have HK1 := Aside0.mk (fun w (h : Held W bx (.cells #[.slice A0 n0 c0, .slice A1 n1 c1, .slice A2 n2 c2, .slice A3 fl.length c3, .bool fa, .int .i64 fu, .slice A6 sv.length c6] 31) w) => (show w.cell? ⟨bx, 1, none⟩ = some (.slice A1 n1 c1) by rw [blk_cell h.2]; rfl))
 have HK2 := Aside0.mk (fun w (h : Held W bx (.cells #[.slice A0 n0 c0, .slice A1 n1 c1, .slice A2 n2 c2, .slice A3 fl.length c3, .bool fa, .int .i64 fu, .slice A6 sv.length c6] 31) w) => (show w.cell? ⟨bx, 2, none⟩ = some (.slice A2 n2 c2) by rw [blk_cell h.2]; rfl))
 have HK3 := Aside0.mk (fun w (h : Held W bx (.cells #[.slice A0 n0 c0, .slice A1 n1 c1, .slice A2 n2 c2, .slice A3 fl.length c3, .bool fa, .int .i64 fu, .slice A6 sv.length c6] 31) w) => (show w.cell? ⟨bx, 3, none⟩ = some (.slice A3 fl.length c3) by rw [blk_cell h.2]; rfl))
 have HK4 := Aside0.mk (fun w (h : Held W bx (.cells #[.slice A0 n0 c0, .slice A1 n1 c1, .slice A2 n2 c2, .slice A3 fl.length c3, .bool fa, .int .i64 fu, .slice A6 sv.length c6] 31) w) => (show w.cell? ⟨bx, 4, none⟩ = some (.bool fa) by rw [blk_cell h.2]; rfl))
 have HK5 := Aside0.mk (fun w (h : Held W bx (.cells #[.slice A0 n0 c0, .slice A1 n1 c1, .slice A2 n2 c2, .slice A3 fl.length c3, .bool fa, .int .i64 fu, .slice A6 sv.length c6] 31) w) => (show w.cell? ⟨bx, 5, none⟩ = some (.int .i64 fu) by rw [blk_cell h.2]; rfl))
 have HK6 := Aside0.mk (fun w (h : Held W bx (.cells #[.slice A0 n0 c0, .slice A1 n1 c1, .slice A2 n2 c2, .slice A3 fl.length c3, .bool fa, .int .i64 fu, .slice A6 sv.length c6] 31) w) => (show w.cell? ⟨bx, 6, none⟩ = some (.slice A6 sv.length c6) by rw [blk_cell h.2]; rfl))
 have HH := Aside0.mk (show Held W bx (.cells #[.slice A0 n0 c0, .slice A1 n1 c1, .slice A2 n2 c2, .slice A3 fl.length c3, .bool fa, .int .i64 fu, .slice A6 sv.length c6] 31) w1 from ⟨HB.out, HX.out⟩)
 obtain ⟨O, hO⟩ : ∃ O, O = (.cells #[.slice A0 n0 c0, .slice A1 n1 c1, .slice A2 n2 c2, .slice A3 fl.length c3, .bool fa, .int .i64 fu, .slice A6 sv.length c6] 31 : Obj) := ⟨_, rfl⟩
 rw [← hO] at HH HK0 HK1 HK2 HK3 HK4 HK5 HK6
 have GSE := Aside0.mk (fun w (h : Held W bx O w) => (HSE.out w h.1).mono (R' := fun e w' => e = .returned (.int .i64 (n0 : Int)) ∧ Held W bx O w') (fun e w' ⟨he, hw⟩ => ⟨he, hw ▸ h⟩))
 have GFA := Aside0.mk (fun w (h : Held W bx O w) => (HFA.out w h.1).mono (R' := fun e w' => e = .returned (.bool fa) ∧ Held W bx O w') (fun e w' ⟨he, hw⟩ => ⟨he, hw ▸ h⟩))
 have GRD := Aside0.mk (fun w (h : Held W bx O w) (i : Int) => (HRD.out w h.1 i).mono (R' := fun e w' => e = .returned (.tuple #[.string (readS S i).1, .int .i64 (readS S i).2]) ∧ Held W bx O w') (fun e w' ⟨he, hw⟩ => ⟨he, hw ▸ h⟩))
 have GOL := Aside0.mk (fun w (h : Held W bx O w) (i : Int) => (HOL.out w h.1 i).mono (R' := fun e w' => e = .returned (.int .i64 (oldN S i)) ∧ Held W bx O w') (fun e w' ⟨he, hw⟩ => ⟨he, hw ▸ h⟩))
 have GPE := Aside0.mk (fun w (h : Held W bx O w) (i : Int) => (HPE.out w h.1 i).mono (R' := fun e w' => e = .returned (.int .i64 (pendN S i : Int)) ∧ Held W bx O w') (fun e w' ⟨he, hw⟩ => ⟨he, h.on hw⟩))
 have GRR := Aside0.mk (fun w (h : Held W bx O w) (i : Int) => (HRR.out w h.1 i).mono (R' := fun e w' => e = .returned (.tuple #[.string (readS S i).1, .int .i64 (readS S i).2]) ∧ Held W bx O w') (fun e w' ⟨he, hw⟩ => ⟨he, h.on hw⟩))
 have GRE := Aside0.mk (fun w (h : Held W bx O w) (i : Int) => (HRE.out w h.1 i).mono (R' := fun e w' => e = .returned (.int .i64 (oldN S i)) ∧ Held W bx O w') (fun e w' ⟨he, hw⟩ => ⟨he, h.on hw⟩))
 have GRW := Aside0.mk (fun w (h : Held W bx O w) (i : Int) => (HRW.out w h.1 i).mono (R' := fun e w' => e = .returned (.int .i64 (pendN S i : Int)) ∧ Held W bx O w') (fun e w' ⟨he, hw⟩ => ⟨he, h.on hw⟩))
 have HH0 := Aside0.mk HH.out.drew
 clear HX HB hO HSE HFA HRD HOL HPE HRR HRE HRW HH
 refine start_ (n := 13) (S := fun w' => w'.cell? ⟨bx, 0, none⟩ = some (.slice A0 n0 c0) ∧ w'.cell? ⟨bx, 4, none⟩ = some (.bool fa)) (ds := []) #[false, false, false, false, false, false, false, false, false, false, false, false, false] (by kernel_rfl) rfl rfl ⟨k0, k4⟩ (fun hHeld => ?_)
 refine pure_ (i := 0) (N := some 11) (v := ?_) (a' := ?_) #[true, false, false, false, false, false, false, false, false, false, false, false, false] rfl rfl (by kernel_rfl) (fun _ _ _ h => h) (Or.inl ⟨by rfl, ?_⟩) ?_ ?_
 rotate_left
 ·intro w'
  go_simp
  with_reducible rfl
 rotate_left
 ·simp only [Act.put, List.setIfInBounds_toArray, List.set_cons_zero, List.set_cons_succ, i64_w, i32_w]
  rfl
 refine pure_ (i := 2) (N := some 13) (v := ?_) (a' := ?_) #[true, false, true, false, false, false, false, false, false, false, false, false, false] rfl rfl (by kernel_rfl) (fun _ _ _ h => h) (Or.inl ⟨by rfl, ?_⟩) ?_ ?_
 rotate_left
 ·intro w'
  go_simp
  with_reducible rfl
 rotate_left
 ·simp only [Act.put, List.setIfInBounds_toArray, List.set_cons_zero, List.set_cons_succ, i64_w, i32_w]
  rfl
 refine take_ (i := 3) (N := some 14) (v := ?_) (a' := ?_) #[true, false, true, true, false, false, false, false, false, false, false, false, false] rfl rfl (by kernel_rfl) (fun _ _ _ h => h) (Or.inl ⟨by rfl, ?_⟩) hHeld ?_ ?_
 rotate_left
 ·rintro w' ⟨s0, s1⟩
  go_simp
  with_reducible rfl
 rotate_left
 ·simp only [Act.put, List.setIfInBounds_toArray, List.set_cons_zero, List.set_cons_succ, i64_w, i32_w]
  rfl
 refine pure_ (i := 4) (N := some 15) (v := ?_) (a' := ?_) #[true, false, true, true, true, false, false, false, false, false, false, false, false] rfl rfl (by kernel_rfl) (fun _ _ _ h => h) (Or.inl ⟨by rfl, ?_⟩) ?_ ?_
 rotate_left
 ·intro w'
  go_simp
  with_reducible rfl
 rotate_left
 ·simp only [Act.put, List.setIfInBounds_toArray, List.set_cons_zero, List.set_cons_succ, i64_w, i32_w]
  rfl
 refine one_ (i := 1) (N := some 12) #[true, true, true, true, true, false, false, false, false, false, false, false, false] rfl rfl (by kernel_rfl) (by decide) (fun K hK => ?_)
 refine goes_ Try.func39 (by kernel_rfl) rfl #[.pointer (some ⟨L.g, 0, none⟩)] (by rfl) rfl rfl (by simp only [List.map_toArray, List.map_cons, List.map_nil]; rfl) ?_
 with_reducible refine (GSE.out _ HH0.out).mono ?_
 rintro e w5 ⟨rfl, hh⟩
 refine ⟨_, rfl, ?_⟩
 have HH5 := Aside0.mk hh
 clear hh
 refine hK.out _ _ ⟨HK0.out _ HH5.out, HK4.out _ HH5.out⟩ (fun hHeld => ?_)
 clear hK K
 refine norm_ (a' := ?_) ?_ ?_
 rotate_left
 ·show Act.put _ (some 12) _ = _
  simp only [Act.put, List.setIfInBounds_toArray, List.set_cons_zero, List.set_cons_succ, i64_w, i32_w]
  rfl
 refine pure_ (i := 5) (N := some 16) (v := ?_) (a' := ?_) #[true, true, true, true, true, true, false, false, false, false, false, false, false] rfl rfl (by kernel_rfl) (fun _ _ _ h => h) (Or.inl ⟨by rfl, ?_⟩) ?_ ?_
 rotate_left
 ·intro w'
  go_simp
  with_reducible rfl
 rotate_left
 ·simp only [Act.put, List.setIfInBounds_toArray, List.set_cons_zero, List.set_cons_succ, i64_w, i32_w]
  rfl
 refine pure_ (i := 6) (N := some 17) (v := ?_) (a' := ?_) #[true, true, true, true, true, true, true, false, false, false, false, false, false] rfl rfl (by kernel_rfl) (fun _ _ _ h => h) (Or.inl ⟨by rfl, ?_⟩) ?_ ?_
 rotate_left
 ·intro w'
  go_simp
  with_reducible rfl
 rotate_left
 ·simp only [Act.put, List.setIfInBounds_toArray, List.set_cons_zero, List.set_cons_succ, i64_w, i32_w]
  rfl
 refine pure_ (i := 7) (N := some 18) (v := ?_) (a' := ?_) #[true, true, true, true, true, true, true, true, false, false, false, false, false] rfl rfl (by kernel_rfl) (fun _ _ _ h => h) (Or.inl ⟨by rfl, ?_⟩) ?_ ?_
 rotate_left
 ·intro w'
  go_simp
  with_reducible rfl
 rotate_left
 ·simp only [Act.put, List.setIfInBounds_toArray, List.set_cons_zero, List.set_cons_succ, i64_w, i32_w]
  rfl
 refine pure_ (i := 9) (N := some 20) (v := ?_) (a' := ?_) #[true, true, true, true, true, true, true, true, false, true, false, false, false] rfl rfl (by kernel_rfl) (fun _ _ _ h => h) (Or.inl ⟨by rfl, ?_⟩) ?_ ?_
 rotate_left
 ·intro w'
  go_simp
  with_reducible rfl
 rotate_left
 ·simp only [Act.put, List.setIfInBounds_toArray, List.set_cons_zero, List.set_cons_succ, i64_w, i32_w]
  rfl
 refine take_ (i := 10) (N := some 21) (v := ?_) (a' := ?_) #[true, true, true, true, true, true, true, true, false, true, true, false, false] rfl rfl (by kernel_rfl) (fun _ _ _ h => h) (Or.inl ⟨by rfl, ?_⟩) hHeld ?_ ?_
 rotate_left
 ·rintro w' ⟨s0, s1⟩
  go_simp
  with_reducible rfl
 rotate_left
 ·simp only [Act.put, List.setIfInBounds_toArray, List.set_cons_zero, List.set_cons_succ, i64_w, i32_w]
  rfl
 refine one_ (i := 8) (N := some 19) #[true, true, true, true, true, true, true, true, true, true, true, false, false] rfl rfl (by kernel_rfl) (by decide) (fun K hK => ?_)
 refine goes_ Try.func40 (by kernel_rfl) rfl #[.pointer (some ⟨L.g, 0, none⟩)] (by rfl) rfl rfl (by simp only [List.map_toArray, List.map_cons, List.map_nil]; rfl) ?_
 with_reducible refine (GFA.out _ HH5.out).mono ?_
 rintro e w6 ⟨rfl, hh⟩
 refine ⟨_, rfl, ?_⟩
 have HH6 := Aside0.mk hh
 clear hh
 refine hK.out _ _ ⟨HK0.out _ HH6.out, HK4.out _ HH6.out⟩ (fun hHeld => ?_)
 clear hK K
 refine norm_ (a' := ?_) ?_ ?_
 rotate_left
 ·show Act.put _ (some 19) _ = _
  simp only [Act.put, List.setIfInBounds_toArray, List.set_cons_zero, List.set_cons_succ, i64_w, i32_w]
  rfl
 refine pure_ (i := 11) (N := some 22) (v := ?_) (a' := ?_) #[true, true, true, true, true, true, true, true, true, true, true, true, false] rfl rfl (by kernel_rfl) (fun _ _ _ h => h) (Or.inl ⟨by rfl, ?_⟩) ?_ ?_
 rotate_left
 ·intro w'
  go_simp
  with_reducible rfl
 rotate_left
 ·simp only [Act.put, List.setIfInBounds_toArray, List.set_cons_zero, List.set_cons_succ, i64_w, i32_w]
  rfl
 refine pure_ (i := 12) (N := some 23) (v := ?_) (a' := ?_) #[true, true, true, true, true, true, true, true, true, true, true, true, true] rfl rfl (by kernel_rfl) (fun _ _ _ h => h) (Or.inl ⟨by rfl, ?_⟩) ?_ ?_
 rotate_left
 ·intro w'
  go_simp
  with_reducible rfl
 rotate_left
 ·simp only [Act.put, List.setIfInBounds_toArray, List.set_cons_zero, List.set_cons_succ, i64_w, i32_w]
  rfl
 refine done_ (by kernel_rfl) ?_
 clear HH0 HH5 k0 k1 k2 k3 k4 k5 k6 GSE GFA
 go_wp2_with fail
 go_loopg [5, 6, 7, 8, 9] (n0 + 2) (fun gg s5 _ _ _ _ wr => ∃ j : Nat, s5 = .int .i64 ((j : Int) - 1) ∧ j ≤ n0 + 2 ∧ n0 + 2 - j ≤ gg ∧ Aside0 (Held W bx O wr))
 case atStart => exact ⟨0, by go_num, by omega, by omega, HH6⟩
 case round =>
  clear HH6
  obtain ⟨j, rfl, hj, hgg, HI⟩ := hrel
  by_cases hlt : j ≤ n0 + 1
  ·have hltz : (j : Int) - 1 ≤ (n0 : Int) := by omega
   have hjz : (j : Int) - 1 ≤ 1155 := by omega
   have hjm : -1 ≤ (j : Int) - 1 := by omega
   obtain ⟨i, hi⟩ : ∃ i, i = (j : Int) - 1 := ⟨_, rfl⟩
   have HIJ := Aside0.mk hi
   rw [← hi] at hltz hjz hjm ⊢
   clear hi
   have HR1 := Aside0.mk (fun w h => GRD.out w h i)
   have HR2 := Aside0.mk (fun w h => GRR.out w h i)
   have HO1 := Aside0.mk (fun w h => GOL.out w h i)
   have HO2 := Aside0.mk (fun w h => GRE.out w h i)
   obtain ⟨d, hd⟩ : ∃ d, d = (readS S i).1 := ⟨_, rfl⟩
   obtain ⟨r, hr⟩ : ∃ r, r = (readS S i).2 := ⟨_, rfl⟩
   obtain ⟨q, hq⟩ : ∃ q, q = oldN S i := ⟨_, rfl⟩
   rw [← hd, ← hr] at HR1 HR2
   rw [← hq] at HO1 HO2
   clear hd hr hq
   have e1 : (d.toList == d.toList) = true := bytes_yes rfl
   have e2 : (d.toList != d.toList) = false := by simp
   have e3 : (r != r) = false := by simp
   have e4 : (q != q) = false := by simp
   have hle : decide (i ≤ (n0 : Int)) = true := decide_eq_true hltz
   have k0 := HK0.out _ HI.out
   have k1 := HK1.out _ HI.out
   have k2 := HK2.out _ HI.out
   have k3 := HK3.out _ HI.out
   have k4 := HK4.out _ HI.out
   have k5 := HK5.out _ HI.out
   have k6 := HK6.out _ HI.out
   go_wp2_with fail
   refine (HR1.out _ HI.out).mono ?_
   rintro e w5 ⟨rfl, hh⟩
   have HI5 := Aside0.mk hh
   clear hh HI HR1 k0 k1 k2 k3 k4 k5 k6
   have k0 := HK0.out _ HI5.out
   have k1 := HK1.out _ HI5.out
   have k2 := HK2.out _ HI5.out
   have k3 := HK3.out _ HI5.out
   have k4 := HK4.out _ HI5.out
   have k5 := HK5.out _ HI5.out
   have k6 := HK6.out _ HI5.out
   go_wp2_with fail
   refine (HR2.out _ HI5.out).mono ?_
   rintro e w6 ⟨rfl, hh⟩
   have HI6 := Aside0.mk hh
   clear hh HI5 HR2 k0 k1 k2 k3 k4 k5 k6
   have k0 := HK0.out _ HI6.out
   have k1 := HK1.out _ HI6.out
   have k2 := HK2.out _ HI6.out
   have k3 := HK3.out _ HI6.out
   have k4 := HK4.out _ HI6.out
   have k5 := HK5.out _ HI6.out
   have k6 := HK6.out _ HI6.out
   go_wp2_with fail
   have HI7 := Aside0.mk HI6.out.drew
   refine start_ (n := 17) (S := fun w' => w'.cell? ⟨bx, 0, none⟩ = some (.slice A0 n0 c0) ∧ w'.cell? ⟨bx, 1, none⟩ = some (.slice A1 n1 c1) ∧ w'.cell? ⟨bx, 2, none⟩ = some (.slice A2 n2 c2) ∧ w'.cell? ⟨bx, 3, none⟩ = some (.slice A3 fl.length c3) ∧ w'.cell? ⟨bx, 4, none⟩ = some (.bool fa) ∧ w'.cell? ⟨bx, 5, none⟩ = some (.int .i64 fu) ∧ w'.cell? ⟨bx, 6, none⟩ = some (.slice A6 sv.length c6)) (ds := []) #[false, false, false, false, false, false, false, false, false, false, false, false, false, false, false, false, false] (by kernel_rfl) rfl rfl ⟨k0, k1, k2, k3, k4, k5, k6⟩ (fun hHeld => ?_)
   refine pure_ (i := 0) (N := some 43) (v := ?_) (a' := ?_) #[true, false, false, false, false, false, false, false, false, false, false, false, false, false, false, false, false] rfl rfl (by kernel_rfl) (fun _ _ _ h => h) (Or.inl ⟨by rfl, ?_⟩) ?_ ?_
   rotate_left
   ·intro w'
    go_simp
    with_reducible rfl
   rotate_left
   ·simp only [Act.put, List.setIfInBounds_toArray, List.set_cons_zero, List.set_cons_succ, i64_w, i32_w]
    rfl
   refine pure_ (i := 1) (N := some 44) (v := ?_) (a' := ?_) #[true, true, false, false, false, false, false, false, false, false, false, false, false, false, false, false, false] rfl rfl (by kernel_rfl) (fun _ _ _ h => h) (Or.inl ⟨by rfl, ?_⟩) ?_ ?_
   rotate_left
   ·intro w'
    go_simp
    with_reducible rfl
   rotate_left
   ·simp only [Act.put, List.setIfInBounds_toArray, List.set_cons_zero, List.set_cons_succ, i64_w, i32_w]
    rfl
   refine pure_ (i := 2) (N := some 45) (v := ?_) (a' := ?_) #[true, true, true, false, false, false, false, false, false, false, false, false, false, false, false, false, false] rfl rfl (by kernel_rfl) (fun _ _ _ h => h) (Or.inl ⟨by rfl, ?_⟩) ?_ ?_
   rotate_left
   ·intro w'
    go_simp
    with_reducible rfl
   rotate_left
   ·simp only [Act.put, List.setIfInBounds_toArray, List.set_cons_zero, List.set_cons_succ, i64_w, i32_w]
    rfl
   refine pure_ (i := 3) (N := some 46) (v := ?_) (a' := ?_) #[true, true, true, true, false, false, false, false, false, false, false, false, false, false, false, false, false] rfl rfl (by kernel_rfl) (fun _ _ _ h => h) (Or.inl ⟨by rfl, ?_⟩) ?_ ?_
   rotate_left
   ·intro w'
    go_simp
    with_reducible rfl
   rotate_left
   ·simp only [Act.put, List.setIfInBounds_toArray, List.set_cons_zero, List.set_cons_succ, i64_w, i32_w]
    rfl
   refine pure_ (i := 4) (N := some 47) (v := ?_) (a' := ?_) #[true, true, true, true, true, false, false, false, false, false, false, false, false, false, false, false, false] rfl rfl (by kernel_rfl) (fun _ _ _ h => h) (Or.inl ⟨by rfl, ?_⟩) ?_ ?_
   rotate_left
   ·intro w'
    go_simp
    with_reducible rfl
   rotate_left
   ·simp only [Act.put, List.setIfInBounds_toArray, List.set_cons_zero, List.set_cons_succ, i64_w, i32_w]
    rfl
   refine pure_ (i := 5) (N := some 48) (v := ?_) (a' := ?_) #[true, true, true, true, true, true, false, false, false, false, false, false, false, false, false, false, false] rfl rfl (by kernel_rfl) (fun _ _ _ h => h) (Or.inl ⟨by rfl, ?_⟩) ?_ ?_
   rotate_left
   ·intro w'
    go_simp
    with_reducible rfl
   rotate_left
   ·simp only [Act.put, List.setIfInBounds_toArray, List.set_cons_zero, List.set_cons_succ, i64_w, i32_w]
    rfl
   refine pure_ (i := 6) (N := some 49) (v := ?_) (a' := ?_) #[true, true, true, true, true, true, true, false, false, false, false, false, false, false, false, false, false] rfl rfl (by kernel_rfl) (fun _ _ _ h => h) (Or.inl ⟨by rfl, ?_⟩) ?_ ?_
   rotate_left
   ·intro w'
    go_simp
    with_reducible rfl
   rotate_left
   ·simp only [Act.put, List.setIfInBounds_toArray, List.set_cons_zero, List.set_cons_succ, i64_w, i32_w]
    rfl
   refine pure_ (i := 7) (N := some 50) (v := ?_) (a' := ?_) #[true, true, true, true, true, true, true, true, false, false, false, false, false, false, false, false, false] rfl rfl (by kernel_rfl) (fun _ _ _ h => h) (Or.inl ⟨by rfl, ?_⟩) ?_ ?_
   rotate_left
   ·intro w'
    go_simp
    with_reducible rfl
   rotate_left
   ·simp only [Act.put, List.setIfInBounds_toArray, List.set_cons_zero, List.set_cons_succ, i64_w, i32_w]
    rfl
   refine pure_ (i := 8) (N := some 51) (v := ?_) (a' := ?_) #[true, true, true, true, true, true, true, true, true, false, false, false, false, false, false, false, false] rfl rfl (by kernel_rfl) (fun _ _ _ h => h) (Or.inl ⟨by rfl, ?_⟩) ?_ ?_
   rotate_left
   ·intro w'
    go_simp
    with_reducible rfl
   rotate_left
   ·simp only [Act.put, List.setIfInBounds_toArray, List.set_cons_zero, List.set_cons_succ, i64_w, i32_w]
    rfl
   refine pure_ (i := 9) (N := some 52) (v := ?_) (a' := ?_) #[true, true, true, true, true, true, true, true, true, true, false, false, false, false, false, false, false] rfl rfl (by kernel_rfl) (fun _ _ _ h => h) (Or.inl ⟨by rfl, ?_⟩) ?_ ?_
   rotate_left
   ·intro w'
    go_simp
    with_reducible rfl
   rotate_left
   ·simp only [Act.put, List.setIfInBounds_toArray, List.set_cons_zero, List.set_cons_succ, i64_w, i32_w]
    rfl
   refine pure_ (i := 10) (N := some 53) (v := ?_) (a' := ?_) #[true, true, true, true, true, true, true, true, true, true, true, false, false, false, false, false, false] rfl rfl (by kernel_rfl) (fun _ _ _ h => h) (Or.inl ⟨by rfl, ?_⟩) ?_ ?_
   rotate_left
   ·intro w'
    go_simp
    with_reducible rfl
   rotate_left
   ·simp only [Act.put, List.setIfInBounds_toArray, List.set_cons_zero, List.set_cons_succ, i64_w, i32_w]
    rfl
   refine pure_ (i := 13) (N := some 56) (v := ?_) (a' := ?_) #[true, true, true, true, true, true, true, true, true, true, true, false, false, true, false, false, false] rfl rfl (by kernel_rfl) (fun _ _ _ h => h) (Or.inl ⟨by rfl, ?_⟩) ?_ ?_
   rotate_left
   ·intro w'
    go_simp
    with_reducible rfl
   rotate_left
   ·simp only [Act.put, List.setIfInBounds_toArray, List.set_cons_zero, List.set_cons_succ, i64_w, i32_w]
    rfl
   refine take_ (i := 12) (N := some 55) (v := ?_) (a' := ?_) #[true, true, true, true, true, true, true, true, true, true, true, false, true, true, false, false, false] rfl rfl (by kernel_rfl) (fun _ _ _ h => h) (Or.inl ⟨by rfl, ?_⟩) hHeld ?_ ?_
   rotate_left
   ·rintro w' ⟨s0, s1, s2, s3, s4, s5, s6⟩
    go_simp
    with_reducible rfl
   rotate_left
   ·simp only [Act.put, List.setIfInBounds_toArray, List.set_cons_zero, List.set_cons_succ, i64_w, i32_w]
    rfl
   refine one_ (i := 11) (N := some 54) #[true, true, true, true, true, true, true, true, true, true, true, true, true, true, false, false, false] rfl rfl (by kernel_rfl) (by decide) (fun K hK => ?_)
   refine goes_ Try.func25 (by kernel_rfl) rfl #[.pointer (some ⟨L.g, 0, none⟩), .int .i64 i] (by rfl) rfl rfl (by simp only [List.map_toArray, List.map_cons, List.map_nil]; rfl) ?_
   with_reducible refine (HO1.out _ HI7.out).mono ?_
   rintro e w8 ⟨rfl, hh⟩
   refine ⟨_, rfl, ?_⟩
   have HI8 := Aside0.mk hh
   clear hh
   refine hK.out _ _ ⟨HK0.out _ HI8.out, HK1.out _ HI8.out, HK2.out _ HI8.out, HK3.out _ HI8.out, HK4.out _ HI8.out, HK5.out _ HI8.out, HK6.out _ HI8.out⟩ (fun hHeld => ?_)
   clear hK K
   refine norm_ (a' := ?_) ?_ ?_
   rotate_left
   ·show Act.put _ (some 54) _ = _
    simp only [Act.put, List.setIfInBounds_toArray, List.set_cons_zero, List.set_cons_succ, i64_w, i32_w]
    rfl
   refine one_ (i := 14) (N := some 57) #[true, true, true, true, true, true, true, true, true, true, true, true, true, true, true, false, false] rfl rfl (by kernel_rfl) (by decide) (fun K hK => ?_)
   refine goes_ Try.func42 (by kernel_rfl) rfl #[.agg #[.slice A0 n0 c0, .slice A1 n1 c1, .slice A2 n2 c2, .slice A3 fl.length c3, .bool fa, .int .i64 fu, .slice A6 sv.length c6], .int .i64 i] (by rfl) rfl rfl (by simp only [List.map_toArray, List.map_cons, List.map_nil]; rfl) ?_
   with_reducible refine (HO2.out _ HI8.out).mono ?_
   rintro e w9 ⟨rfl, hh⟩
   refine ⟨_, rfl, ?_⟩
   have HI9 := Aside0.mk hh
   clear hh
   refine hK.out _ _ ⟨HK0.out _ HI9.out, HK1.out _ HI9.out, HK2.out _ HI9.out, HK3.out _ HI9.out, HK4.out _ HI9.out, HK5.out _ HI9.out, HK6.out _ HI9.out⟩ (fun hHeld => ?_)
   clear hK K
   refine norm_ (a' := ?_) ?_ ?_
   rotate_left
   ·show Act.put _ (some 57) _ = _
    simp only [Act.put, List.setIfInBounds_toArray, List.set_cons_zero, List.set_cons_succ, i64_w, i32_w]
    rfl
   refine pure_ (i := 15) (N := some 58) (v := ?_) (a' := ?_) #[true, true, true, true, true, true, true, true, true, true, true, true, true, true, true, true, false] rfl rfl (by kernel_rfl) (fun _ _ _ h => h) (Or.inl ⟨by rfl, ?_⟩) ?_ ?_
   rotate_left
   ·intro w'
    go_simp
    with_reducible rfl
   rotate_left
   ·simp only [Act.put, List.setIfInBounds_toArray, List.set_cons_zero, List.set_cons_succ, i64_w, i32_w]
    rfl
   refine pure_ (i := 16) (N := some 59) (v := ?_) (a' := ?_) #[true, true, true, true, true, true, true, true, true, true, true, true, true, true, true, true, true] rfl rfl (by kernel_rfl) (fun _ _ _ h => h) (Or.inl ⟨by rfl, ?_⟩) ?_ ?_
   rotate_left
   ·intro w'
    go_simp
    with_reducible rfl
   rotate_left
   ·simp only [Act.put, List.setIfInBounds_toArray, List.set_cons_zero, List.set_cons_succ, i64_w, i32_w]
    rfl
   refine done_ (by kernel_rfl) ?_
   clear HI6 HI7 HI8 HO1 HO2 k0 k1 k2 k3 k4 k5 k6
   go_wp2_with fail
   go_roundg (n0 + 2 - (j + 1))
   case measure => omega
   case rel => exact ⟨j + 1, by have := HIJ.out; rw [this]; go_num, by omega, Nat.le_refl _, HI9⟩
  ·obtain rfl : j = n0 + 2 := by omega
   have hd : decide (((n0 + 2 : Nat) : Int) - 1 ≤ (n0 : Int)) = false := decide_eq_false (by omega)
   obtain ⟨i, hi⟩ : ∃ i, i = ((n0 + 2 : Nat) : Int) - 1 := ⟨_, rfl⟩
   rw [← hi] at hd ⊢
   clear hi hlt hj hgg
   have k0 := HK0.out _ HI.out
   go_wp2_with fail
   clear k0
   go_loopg [10] 6 (fun gg s10 wr => ∃ j : Nat, s10 = .int .i64 (j : Int) ∧ j ≤ 6 ∧ 6 - j ≤ gg ∧ Aside0 (Held W bx O wr))
   case atStart => exact ⟨0, by go_num, by omega, by omega, HI⟩
   case round =>
    clear HI
    obtain ⟨j, rfl, hj, hgg, HI⟩ := hrel
    by_cases hlt : j ≤ 5
    ·have hltz : (j : Int) ≤ 5 := by omega
     have HP1 := Aside0.mk (fun w h => GPE.out w h j)
     have HP2 := Aside0.mk (fun w h => GRW.out w h j)
     obtain ⟨p, hp⟩ : ∃ p, p = pendN S j := ⟨_, rfl⟩
     rw [← hp] at HP1 HP2
     clear hp
     have e5 : ((p : Int) != (p : Int)) = false := by simp
     have k0 := HK0.out _ HI.out
     have k1 := HK1.out _ HI.out
     have k2 := HK2.out _ HI.out
     have k3 := HK3.out _ HI.out
     have k4 := HK4.out _ HI.out
     have k5 := HK5.out _ HI.out
     have k6 := HK6.out _ HI.out
     go_wp2_with fail
     have HI7 := Aside0.mk HI.out.drew
     refine start_ (n := 7) (S := fun w' => w'.cell? ⟨bx, 0, none⟩ = some (.slice A0 n0 c0) ∧ w'.cell? ⟨bx, 1, none⟩ = some (.slice A1 n1 c1) ∧ w'.cell? ⟨bx, 2, none⟩ = some (.slice A2 n2 c2) ∧ w'.cell? ⟨bx, 3, none⟩ = some (.slice A3 fl.length c3) ∧ w'.cell? ⟨bx, 4, none⟩ = some (.bool fa) ∧ w'.cell? ⟨bx, 5, none⟩ = some (.int .i64 fu) ∧ w'.cell? ⟨bx, 6, none⟩ = some (.slice A6 sv.length c6)) (ds := []) #[false, false, false, false, false, false, false] (by kernel_rfl) rfl rfl ⟨k0, k1, k2, k3, k4, k5, k6⟩ (fun hHeld => ?_)
     refine pure_ (i := 0) (N := some 64) (v := ?_) (a' := ?_) #[true, false, false, false, false, false, false] rfl rfl (by kernel_rfl) (fun _ _ _ h => h) (Or.inl ⟨by rfl, ?_⟩) ?_ ?_
     rotate_left
     ·intro w'
      go_simp
      with_reducible rfl
     rotate_left
     ·simp only [Act.put, List.setIfInBounds_toArray, List.set_cons_zero, List.set_cons_succ, i64_w, i32_w]
      rfl
     refine pure_ (i := 1) (N := some 65) (v := ?_) (a' := ?_) #[true, true, false, false, false, false, false] rfl rfl (by kernel_rfl) (fun _ _ _ h => h) (Or.inl ⟨by rfl, ?_⟩) ?_ ?_
     rotate_left
     ·intro w'
      go_simp
      with_reducible rfl
     rotate_left
     ·simp only [Act.put, List.setIfInBounds_toArray, List.set_cons_zero, List.set_cons_succ, i64_w, i32_w]
      rfl
     refine pure_ (i := 4) (N := some 68) (v := ?_) (a' := ?_) #[true, true, false, false, true, false, false] rfl rfl (by kernel_rfl) (fun _ _ _ h => h) (Or.inl ⟨by rfl, ?_⟩) ?_ ?_
     rotate_left
     ·intro w'
      go_simp
      with_reducible rfl
     rotate_left
     ·simp only [Act.put, List.setIfInBounds_toArray, List.set_cons_zero, List.set_cons_succ, i64_w, i32_w]
      rfl
     refine take_ (i := 3) (N := some 67) (v := ?_) (a' := ?_) #[true, true, false, true, true, false, false] rfl rfl (by kernel_rfl) (fun _ _ _ h => h) (Or.inl ⟨by rfl, ?_⟩) hHeld ?_ ?_
     rotate_left
     ·rintro w' ⟨s0, s1, s2, s3, s4, s5, s6⟩
      go_simp
      with_reducible rfl
     rotate_left
     ·simp only [Act.put, List.setIfInBounds_toArray, List.set_cons_zero, List.set_cons_succ, i64_w, i32_w]
      rfl
     refine one_ (i := 2) (N := some 66) #[true, true, true, true, true, false, false] rfl rfl (by kernel_rfl) (by decide) (fun K hK => ?_)
     refine goes_ Try.func24 (by kernel_rfl) rfl #[.pointer (some ⟨L.g, 0, none⟩), .int .i64 j] (by rfl) rfl rfl (by simp only [List.map_toArray, List.map_cons, List.map_nil]; rfl) ?_
     with_reducible refine (HP1.out _ HI7.out).mono ?_
     rintro e w8 ⟨rfl, hh⟩
     refine ⟨_, rfl, ?_⟩
     have HI8 := Aside0.mk hh
     clear hh
     refine hK.out _ _ ⟨HK0.out _ HI8.out, HK1.out _ HI8.out, HK2.out _ HI8.out, HK3.out _ HI8.out, HK4.out _ HI8.out, HK5.out _ HI8.out, HK6.out _ HI8.out⟩ (fun hHeld => ?_)
     clear hK K
     refine norm_ (a' := ?_) ?_ ?_
     rotate_left
     ·show Act.put _ (some 66) _ = _
      simp only [Act.put, List.setIfInBounds_toArray, List.set_cons_zero, List.set_cons_succ, i64_w, i32_w]
      rfl
     refine one_ (i := 5) (N := some 69) #[true, true, true, true, true, true, false] rfl rfl (by kernel_rfl) (by decide) (fun K hK => ?_)
     refine goes_ Try.func43 (by kernel_rfl) rfl #[.agg #[.slice A0 n0 c0, .slice A1 n1 c1, .slice A2 n2 c2, .slice A3 fl.length c3, .bool fa, .int .i64 fu, .slice A6 sv.length c6], .int .i64 j] (by rfl) rfl rfl (by simp only [List.map_toArray, List.map_cons, List.map_nil]; rfl) ?_
     with_reducible refine (HP2.out _ HI8.out).mono ?_
     rintro e w9 ⟨rfl, hh⟩
     refine ⟨_, rfl, ?_⟩
     have HI9 := Aside0.mk hh
     clear hh
     refine hK.out _ _ ⟨HK0.out _ HI9.out, HK1.out _ HI9.out, HK2.out _ HI9.out, HK3.out _ HI9.out, HK4.out _ HI9.out, HK5.out _ HI9.out, HK6.out _ HI9.out⟩ (fun hHeld => ?_)
     clear hK K
     refine norm_ (a' := ?_) ?_ ?_
     rotate_left
     ·show Act.put _ (some 69) _ = _
      simp only [Act.put, List.setIfInBounds_toArray, List.set_cons_zero, List.set_cons_succ, i64_w, i32_w]
      rfl
     refine pure_ (i := 6) (N := some 70) (v := ?_) (a' := ?_) #[true, true, true, true, true, true, true] rfl rfl (by kernel_rfl) (fun _ _ _ h => h) (Or.inl ⟨by rfl, ?_⟩) ?_ ?_
     rotate_left
     ·intro w'
      go_simp
      with_reducible rfl
     rotate_left
     ·simp only [Act.put, List.setIfInBounds_toArray, List.set_cons_zero, List.set_cons_succ, i64_w, i32_w]
      rfl
     refine done_ (by kernel_rfl) ?_
     clear HI HI7 HI8 HP1 HP2 k0 k1 k2 k3 k4 k5 k6
     go_wp2_with fail
     go_roundg (6 - (j + 1))
     case measure => omega
     case rel => exact ⟨j + 1, by go_num, by omega, Nat.le_refl _, HI9⟩
    ·obtain rfl : j = 6 := by omega
     go_wp2_with fail
     go_ret
     exact ⟨rfl, HI.out.1⟩
end
end Go.Proofs.Ytflajmgichdhhaa.PG
namespace Go.Proofs.Ytflajmgichdhhaa.PG
open Go.RowKit Go.Proofs.YtflajmgichdhhaaW.PrintWords Go.Proofs.YtflajmgichdhhaaW.PrintLast Go.Proofs.YtflajmgichdhhaaW.PrintMore
set_option linter.unusedVariables false
set_option linter.unusedSimpArgs false
abbrev OneV := {v : Value // v.oneCell' = true}
def kV : Kd OneV := Kd.scalar (fun x => x.1) (fun x => x.2)
theorem slice_one (A : Option Addr) (n c : Nat) : (Value.slice A n c).oneCell' = true := rfl
theorem rows_open {W : World} {ok : Nat → Prop} {A : Option Addr} {ol : List (List ByteArray)} (hF : Kd.F (Kd.slice 9 Kd.string) W ok A ol.length ol) :
  ∃ us : List OneV, Kd.C kV W A ol.length us ∧ ∀ (i : Nat) (x : List ByteArray), ol[i]? = some x → ∃ u, us[i]? = some u ∧ Kd.V Kd.string 9 W 0 ok u.1 x := by
 have hmax := Kd.F_max hF
 have key : ∀ i : Fin ol.length, ∃ u : OneV, (∃ ad, A = some ad ∧ W.cell? (ad.add i.1) = some u.1) ∧ Kd.V Kd.string 9 W 0 ok u.1 ol[i.1] := by
  intro i
  obtain ⟨ad, cs, he, hcl, hK, hcc, _⟩ := Kd.F_get hF [] (i.1 : Int) (by omega) (by have := i.2; omega)
  rw [Int.toNat_natCast, List.getD_eq_getElem?_getD, List.getElem?_eq_getElem i.2] at hK
  obtain ⟨Ai, ci, e, h1, h2⟩ := Kd.FK_slice_open hK
  rw [e] at hcc
  have hc := hcc 0 _ rfl
  rw [Int.toNat_natCast] at hc
  refine ⟨⟨_, slice_one Ai _ ci⟩, ⟨ad, he, ?_⟩, ⟨Ai, ci, rfl, h1, h2⟩⟩
  simpa [show (Kd.slice 9 Kd.string).sz = 1 from rfl] using hc
 refine ⟨List.ofFn (fun i => Classical.choose (key i)), ⟨by simp, hmax, fun h0 => ?_⟩, fun i x hx => ?_⟩
 ·obtain ⟨ad, he, _⟩ := (Classical.choose_spec (key ⟨0, h0⟩)).1
  refine ⟨ad, he, fun j p hj => ?_⟩
  have hjl : j < ol.length := by have := (List.getElem?_eq_some_iff.1 hj).1; simpa using this
  rw [List.getElem?_ofFn, dif_pos hjl] at hj
  obtain rfl := Option.some.inj hj
  obtain ⟨ad', he', hc⟩ := (Classical.choose_spec (key ⟨j, hjl⟩)).1
  obtain rfl := Option.some.inj (he.symm.trans he')
  refine ⟨[_], rfl, rfl, fun q u hu => ?_⟩
  cases q with
  | zero => cases hu; simpa [show kV.sz = 1 from rfl] using hc
  | succ q => cases hu
 ·obtain ⟨hi, ex⟩ := List.getElem?_eq_some_iff.1 hx
  refine ⟨Classical.choose (key ⟨i, hi⟩), by rw [List.getElem?_ofFn, dif_pos hi], ?_⟩
  rw [← ex]
  exact (Classical.choose_spec (key ⟨i, hi⟩)).2
theorem rows_V {W : World} {ok : Nat → Prop} {g cap : Nat} {cur : Array Value} {ol : List (List ByteArray)} (hb : W.heap[g]? = some (.cells cur 26 (0, 0))) (hm : ol.length ≤ 9223372036854775807) (hc : ol.length ≤ cap)
  (hr : ∀ (i : Nat) (x : List ByteArray), ol[i]? = some x → ∃ u, cur[i]? = some u ∧ Kd.V Kd.string 9 W 0 ok u x) :
  Kd.V (Kd.slice 9 Kd.string) 26 W 0 (fun k => ok k ∨ k = g) (.slice (some ⟨g, 0, none⟩) ol.length cap) ol := by
 refine ⟨_, _, rfl, hc, fun W' hW => ⟨rfl, hm, fun _ => ⟨_, rfl, fun j x hj => ?_⟩⟩⟩
 obtain ⟨u, hu, Ai, ci, e, h1, h2⟩ := hr j x hj
 have hb' : W'.heap[g]? = some (.cells cur 26 (0, 0)) := (hW g (Or.inr rfl) (blk_lt hb)).trans hb
 refine ⟨[.slice Ai x.length ci], rfl, ⟨Ai, ci, rfl, h1, h2 W' (fun k hk hlt => hW k (Or.inl hk) hlt)⟩, fun q v hv => ?_⟩
 cases q with
 | zero =>
  cases hv
  have : Addr.add ⟨g, 0, none⟩ j = ⟨g, j, none⟩ := by simp [Addr.add]; intro hz; exact hz.symm
  rw [show (Kd.slice 9 Kd.string).sz = 1 from rfl, Nat.mul_one, Nat.add_zero, this, blk_cell hb', hu, e]
 | succ q => cases hv
theorem scal_V {α : Type} {enc : α → Value} {h1 : ∀ x, (enc x).oneCell' = true} {e : Nat} {W : World} {g cap : Nat} {cur : Array Value} {xs : List α} (hb : W.heap[g]? = some (.cells cur e (0, 0))) (hm : xs.length ≤ 9223372036854775807) (hc : xs.length ≤ cap)
  (hr : ∀ (i : Nat) (x : α), xs[i]? = some x → cur[i]? = some (enc x)) :
  Kd.V (Kd.scalar enc h1) e W 0 (fun k => k = g) (.slice (some ⟨g, 0, none⟩) xs.length cap) xs := by
 refine ⟨_, _, rfl, hc, fun W' hW => ⟨rfl, hm, fun _ => ⟨_, rfl, fun j x hj => ?_⟩⟩⟩
 have hb' : W'.heap[g]? = some (.cells cur e (0, 0)) := (hW g rfl (blk_lt hb)).trans hb
 refine ⟨[enc x], rfl, rfl, fun q v hv => ?_⟩
 cases q with
 | zero =>
  cases hv
  have : Addr.add ⟨g, 0, none⟩ j = ⟨g, j, none⟩ := by simp [Addr.add]; intro hz; exact hz.symm
  rw [show (Kd.scalar enc h1).sz = 1 from rfl, Nat.mul_one, Nat.add_zero, this, blk_cell hb', hr j x hj]
 | succ q => cases hv
theorem own_open {α : Type} {enc : α → Value} {h1 : ∀ x, (enc x).oneCell' = true} {e base : Nat} {ok : Nat → Prop} {w : World} {v : Value} {xs : List α} (h : (Kd.scalar enc h1).R e w base ok v xs) (h0 : 0 < xs.length) :
  ∃ g cap cur, v = .slice (some ⟨g, 0, none⟩) xs.length cap ∧ base ≤ g ∧ w.heap[g]? = some (.cells cur e (0, 0)) ∧ xs.length ≤ cap ∧ cap ≤ maxLen ∧ ∀ (i : Nat) (x : α), xs[i]? = some x → cur[i]? = some (enc x) := by
 have hown := Kd.own_of_R h
 rcases hown.2 with ⟨_, hz⟩ | ⟨g, cap, cur, hv, hb, hh, hn, hcm, hcs, ht⟩
 ·omega
 ·refine ⟨g, cap, cur, hv, hb, hh, hn, hcm, fun i x hx => ?_⟩
  have hi := (List.getElem?_eq_some_iff.1 hx).1
  have h2 : (cur.toList.take (xs.length * 1))[i]? = some (enc x) := by
   rw [ht]
   simp [encs, List.getElem?_map, hx]
  rw [List.getElem?_take, if_pos (by omega), Array.getElem?_toList] at h2
  exact h2
theorem results_c {P : Program} {fn : Func} {p : Tmp} {ty : TypeId} (h : fn.results = #[.cell p ty]) (tmps : Array Value) (w : World) (g : Nat) (t : TypeId) (cs : Array Value) (fr : Nat × Nat) (d : TypeDesc)
  (hp : tmps.getD p undef = .pointer (some ⟨g, 0, none⟩)) (hg : w.heap[g]? = some (.cells cs t fr))
  (hu : P.underlying ty = some d) (hd : (match d with | .struct _ | .array _ _ => true | _ => false) = true) (hi : (P.info? ty).map (·.size) = some cs.size) :
  (results fn tmps).run P w = .ok (.agg cs) w := by
 have hp' : tmps[p]?.getD undef = .pointer (some ⟨g, 0, none⟩) := by simpa using hp
 simp [results, h, hp', asAddr, run_loadVar_row w g t ty cs fr d hg hu hd hi]
end Go.Proofs.Ytflajmgichdhhaa.PG
namespace Go.Proofs.Ytflajmgichdhhaa.PG
open Go.RowKit Go.Proofs.YtflajmgichdhhaaW.PrintWords Go.Proofs.YtflajmgichdhhaaW.PrintLast Go.Proofs.YtflajmgichdhhaaW.PrintMore
set_option linter.unusedVariables false
set_option linter.unusedSimpArgs false
theorem empty_own' {α : Type} {d : Kd α} {e : Nat} {w : World} {B g : Nat} (hb : w.heap[g]? = some (.cells #[] e (0, 0))) (hle : B ≤ g) : Kd.R d e w B (fun k => B ≤ k) (.slice (some ⟨g, 0, none⟩) 0 0) [] := by
 refine ⟨fun k hk => ?_, [], ⟨by simp, Or.inr ⟨g, 0, #[], rfl, hle, hb, Nat.le_refl _, Nat.zero_le _, by simp, by simp⟩⟩, Reps.none _ _⟩
 simp [Value.ownBlock] at hk
 omega
theorem one_own {w : World} {B g : Nat} {x : ByteArray} (hb : w.heap[g]? = some (.cells #[.string x] 9 (0, 0))) (hle : B ≤ g) : Kd.R Kd.string 9 w B (fun k => B ≤ k) (.slice (some ⟨g, 0, none⟩) 1 1) [x] := by
 refine ⟨fun k hk => ?_, [.string x], ⟨by simp [Kd.string, Kd.scalar], Or.inr ⟨g, 1, #[.string x], rfl, hle, hb, Nat.le_refl _, by decide, by simp [Kd.string, Kd.scalar], by simp [Kd.string, Kd.scalar]⟩⟩, Reps.one (show [Value.string x] = [Value.string x] from rfl) (Reps.none _ _)⟩
 simp [Value.ownBlock] at hk
 omega
theorem set_cur {α : Type} (enc : α → Value) {cur : Array Value} {xs : List α} (h : ∀ (j : Nat) (x : α), xs[j]? = some x → cur[j]? = some (enc x)) (i : Nat) (hi : i < xs.length) (d : α) (u : Value) (hu : u = enc d) : ∀ (j : Nat) (x : α), (xs.set i d)[j]? = some x → (cur.setIfInBounds i u)[j]? = some (enc x) := by
 intro j x hx
 have hc := h i _ (List.getElem?_eq_getElem hi)
 have hsz := (Array.getElem?_eq_some_iff.1 hc).1
 rw [List.getElem?_set] at hx
 rw [Array.getElem?_setIfInBounds]
 by_cases e : i = j
 ·rw [if_pos e, if_pos hi] at hx
  obtain rfl := Option.some.inj hx
  rw [if_pos e, if_pos hsz, hu]
 ·rw [if_neg e] at hx
  rw [if_neg e]
  exact h j x hx
theorem rch_end {W wC : World} {ok : Nat → Prop} {v0 v1 v5 w : Value} {fl : List Int} {fu : Int} {sv : List Int} {S : DevS} {n0 n1 n2 n3 n6 g1 g2 cap1 cap2 c2 c3 c6 : Nat} {fa : Bool} {A2 A3 A6 : Option Addr} {cur1 cur2 : Array Value} {us : List OneV}
  (hA : RefAt W ok w v0 v1 (.slice A2 S.pend.length c2) (.slice A3 fl.length c3) (.slice A6 sv.length c6) fl fu sv S) (hE : n0 = S.stable.length ∧ n1 = S.old.length ∧ n2 = S.pend.length ∧ n3 = fl.length ∧ n6 = sv.length ∧ fa = S.failed) (hb : Below W.heap.size W wC) (i : Nat) (hi : i < S.stable.length) (hi1 : i < S.old.length) (d x : ByteArray) (y : List ByteArray) (hy : S.old[i]? = some y)
  (h1 : wC.heap[g1]? = some (.cells (cur1.setIfInBounds i (.string d)) 9 (0, 0))) (hc1 : ∀ (j : Nat) (x : ByteArray), S.stable[j]? = some x → cur1[j]? = some (.string x)) (h2 : wC.heap[g2]? = some (.cells (cur2.setIfInBounds i v5) 26 (0, 0))) (hc2 : ∀ (j : Nat) (u : OneV), us[j]? = some u → cur2[j]? = some u.1)
  (hV : Kd.V Kd.string 9 wC 0 (fun k => W.heap.size ≤ k) v5 ((x :: y).take 8)) (hus : ∀ (j : Nat) (x : List ByteArray), S.old[j]? = some x → ∃ u, us[j]? = some u ∧ Kd.V Kd.string 9 W 0 ok u.1 x) (l1 : W.heap.size ≤ g1) (l2 : W.heap.size ≤ g2) (hcn1 : Aside0 (n0 ≤ cap1)) (hcn2 : Aside0 (n1 ≤ cap2)) (hm0 : n0 ≤ 1155) (hm1 : n1 ≤ 1155) :
  RefIs wC (fun k => ok k ∨ W.heap.size ≤ k) (.agg #[.slice (some ⟨g1, 0, none⟩) n0 cap1, .slice (some ⟨g2, 0, none⟩) n1 cap2, .slice A2 n2 c2, .slice A3 n3 c3, .bool fa, .int .i64 fu, .slice A6 n6 c6]) { S with stable := S.stable.set i d, old := S.old.set i ((x :: S.old.getD i []).take 8) } := by
 obtain ⟨rfl, rfl, rfl, rfl, rfl, rfl⟩ := hE
 have hgd : S.old.getD i [] = y := by rw [List.getD_eq_getElem?_getD, hy]; rfl
 have mv : ∀ {α : Type} {d : Kd α} {e : Nat} {u : Value} {xs : List α}, Kd.V d e W 0 ok u xs → Kd.V d e wC 0 (fun k => ok k ∨ W.heap.size ≤ k) u xs := fun hu => Kd.V_mono (Kd.V_below hu hb) (fun k hk => Or.inl hk)
 refine ⟨_, _, _, _, _, fl, fu, sv, { hv := rfl, h0 := ?_, h1 := ?_, h2 := mv hA.h2, h3 := mv hA.h3, h6 := mv hA.h6, fl5 := hA.fl5, fok := hA.fok, uok := hA.uok }⟩
 ·have := scal_V (h1 := fun _ => rfl) (cap := cap1) h1 (by simp; omega) (by simpa using hcn1.out) (set_cur Value.string hc1 i hi d _ rfl)
  rw [List.length_set] at this
  exact Kd.V_mono this (fun k hk => by rw [hk]; exact Or.inr l1)
 ·rw [hgd]
  have := rows_V (ok := fun k => ok k ∨ W.heap.size ≤ k) (cap := cap2) (ol := S.old.set i ((x :: y).take 8)) h2 (by simp; omega) (by simpa using hcn2.out) (fun j z hz => by
   rw [List.getElem?_set] at hz
   rw [Array.getElem?_setIfInBounds]
   by_cases e : i = j
   ·rw [if_pos e, if_pos hi1] at hz
    obtain rfl := Option.some.inj hz
    obtain ⟨ui, hui, _⟩ := hus i y hy
    have hsz := (Array.getElem?_eq_some_iff.1 (hc2 i ui hui)).1
    exact ⟨v5, by rw [if_pos e, if_pos hsz], Kd.V_mono hV (fun k hk => Or.inr hk)⟩
   ·rw [if_neg e] at hz
    obtain ⟨u, hu, hv⟩ := hus j z hz
    exact ⟨u.1, by rw [if_neg e]; exact hc2 j u hu, mv hv⟩)
  rw [List.length_set] at this
  exact Kd.V_mono this (fun k hk => hk.elim id (fun e => by rw [e]; exact Or.inr l2))
def RChPost (ok : Nat → Prop) (S' : DevS) (W : World) (e : Ending) (W' : World) : Prop := ∃ v, e = .returned v ∧ RefIs W' (fun k => ok k ∨ W.heap.size ≤ k) v S' ∧ Below W.heap.size W W'
set_option maxRecDepth 100000 in
set_option maxHeartbeats 4000000 in
theorem change_ref {W : World} {ok : Nat → Prop} {v : Value} {S : DevS} (hR : RefIs W ok v S) (i : Nat) (hi : i < S.stable.length) (d : ByteArray) (hn : S.stable.length ≤ 1155) (ho : S.old.length = S.stable.length) (hol : ∀ l ∈ S.old, l.length ≤ 8) :
  Calls Try.prog 57 #[v, .int .i64 i, .string d] W fun e W' => RChPost ok (changeS i d S) W e W' := by
 have hR0 := hR
 obtain ⟨v0, v1, v2, v3, v6, fl, fu, sv, hA⟩ := hR
 obtain rfl := hA.hv
 obtain ⟨A0, c0, e0, hl0, hF0⟩ := hA.h0
 obtain ⟨A1, c1, e1, hl1, hF1⟩ := hA.h1
 obtain ⟨A2, c2, e2, _⟩ := hA.h2
 obtain ⟨A3, c3, e3, _⟩ := hA.h3
 obtain ⟨A6, c6, e6, _⟩ := hA.h6
 subst e0 e1 e2 e3 e6
 obtain ⟨us, hC1, hus⟩ := rows_open hF1
 have HA := Aside0.mk hA
 have HC0 := Aside0.mk (Kd.F_now hF0)
 have HC1 := Aside0.mk hC1
 have HUS := Aside0.mk hus
 obtain ⟨ad0, ea0, q0⟩ := Kd.at_string (Kd.F_now hF0) (i : Int) (by omega) (by omega)
 rw [Int.toNat_natCast, show rdOf ByteArray.empty S.stable (i : Int) = S.stable.getD i ⟨#[]⟩ by unfold rdOf; rw [Int.toNat_natCast]; rfl] at q0
 obtain ⟨n0, hn0⟩ : ∃ n0, n0 = S.stable.length := ⟨_, rfl⟩
 obtain ⟨n1, hn1⟩ : ∃ n1, n1 = S.old.length := ⟨_, rfl⟩
 obtain ⟨n2, hn2⟩ : ∃ n2, n2 = S.pend.length := ⟨_, rfl⟩
 obtain ⟨n3, hn3⟩ : ∃ n3, n3 = fl.length := ⟨_, rfl⟩
 obtain ⟨n6, hn6⟩ : ∃ n6, n6 = sv.length := ⟨_, rfl⟩
 obtain ⟨fa, hfa⟩ : ∃ fa, fa = S.failed := ⟨_, rfl⟩
 rw [← hn0] at hl0
 rw [← hn1] at hl1
 rw [← hn0] at HC0
 rw [← hn1] at HC1
 have EQ := Aside0.mk (show n0 = S.stable.length ∧ n1 = S.old.length ∧ n2 = S.pend.length ∧ n3 = fl.length ∧ n6 = sv.length ∧ fa = S.failed from ⟨hn0, hn1, hn2, hn3, hn6, hfa⟩)
 have HOL := Aside0.mk hol
 have HR0 := Aside0.mk hR0
 have hin : i < n0 := by omega
 have hin1 : i < n1 := by omega
 have hinz : (i : Int) < (n0 : Int) := by omega
 have hinz1 : (i : Int) < (n1 : Int) := by omega
 have hnm : n0 ≤ 1155 := by omega
 have hnm1 : n1 ≤ 1155 := by omega
 rw [← hn0, ← hn1, ← hn2, ← hn3, ← hn6, ← hfa] 
 rw [← hn0, ← hn1, ← hn2, ← hn3, ← hn6, ← hfa] at HR0
 subst ea0
 obtain ⟨x, hx⟩ : ∃ x, x = S.stable.getD i ⟨#[]⟩ := ⟨_, rfl⟩
 rw [← hx] at q0
 have HX := Aside0.mk hx
 have hbk := World.block_lt_of_cell? W _ q0
 have hbk0 : ad0.block < W.heap.size := by
  have e : (ad0.add i).block = ad0.block := by unfold Addr.add; split <;> rfl
  rw [e] at hbk; exact hbk
 clear hA hF0 hF1 hC1 hus hR0 hn0 hn1 hn2 hn3 hn6 hfa hol hn ho hi
 unfold changeS
 rw [← hx]
 by_cases hxd : x = d
 ·rw [if_pos hxd]
  have hb : (x.toList == d.toList) = true := bytes_yes hxd
  clear hx hxd hl0 hl1
  go_enter Try.func57, Try.ntmps57
  go_wp2_with fail
  have hx2 : ((W.alloc (.cells #[.slice (some ad0) n0 c0, .slice A1 n1 c1, .slice A2 n2 c2, .slice A3 n3 c3, .bool fa, .int .i64 fu, .slice A6 n6 c6] 31)).alloc (.cells #[.slice (some ad0) n0 c0, .slice A1 n1 c1, .slice A2 n2 c2, .slice A3 n3 c3, .bool fa, .int .i64 fu, .slice A6 n6 c6] 31)).heap[W.heap.size + 1]? = some (.cells #[.slice (some ad0) n0 c0, .slice A1 n1 c1, .slice A2 n2 c2, .slice A3 n3 c3, .bool fa, .int .i64 fu, .slice A6 n6 c6] 31 (0, 0)) := by
   rw [show W.heap.size + 1 = (W.alloc (.cells #[.slice (some ad0) n0 c0, .slice A1 n1 c1, .slice A2 n2 c2, .slice A3 n3 c3, .bool fa, .int .i64 fu, .slice A6 n6 c6] 31)).heap.size by simp]; exact blk_new _ _
  have hb2 : Below W.heap.size W ((W.alloc (.cells #[.slice (some ad0) n0 c0, .slice A1 n1 c1, .slice A2 n2 c2, .slice A3 n3 c3, .bool fa, .int .i64 fu, .slice A6 n6 c6] 31)).alloc (.cells #[.slice (some ad0) n0 c0, .slice A1 n1 c1, .slice A2 n2 c2, .slice A3 n3 c3, .bool fa, .int .i64 fu, .slice A6 n6 c6] 31)) := below_alloc (below_alloc (Below.refl _ _) _) _
  refine bodyPost_ret (results_c rfl _ _ (W.heap.size + 1) 31 #[.slice (some ad0) n0 c0, .slice A1 n1 c1, .slice A2 n2 c2, .slice A3 n3 c3, .bool fa, .int .i64 fu, .slice A6 n6 c6] (0, 0) _ rfl hx2 Try.underlying31 rfl (by kernel_rfl)) rfl ?_
  exact ⟨_, rfl, (HR0.out.below hb2).mono (fun k hk _ => Or.inl hk), hb2⟩
 ·rw [if_neg hxd]
  have hb : (x.toList == d.toList) = false := bytes_no hxd
  clear hx hxd
  go_enter Try.func57, Try.ntmps57
  go_wp2_with (at_builtin; with_reducible refine stopHere ?_)
  obtain ⟨f0, f1, f2, fb⟩ := three W (.cells #[.slice (some ad0) n0 c0, .slice A1 n1 c1, .slice A2 n2 c2, .slice A3 n3 c3, .bool fa, .int .i64 fu, .slice A6 n6 c6] 31) (.cells #[.slice none 0 0, .slice none 0 0, .slice none 0 0, .slice none 0 0, .bool false, .int .i64 0, .slice none 0 0] 31) (.cells #[] 9)
  obtain ⟨w3, hw3⟩ : ∃ w3, w3 = ((W.alloc (.cells #[.slice (some ad0) n0 c0, .slice A1 n1 c1, .slice A2 n2 c2, .slice A3 n3 c3, .bool fa, .int .i64 fu, .slice A6 n6 c6] 31)).alloc (.cells #[.slice none 0 0, .slice none 0 0, .slice none 0 0, .slice none 0 0, .bool false, .int .i64 0, .slice none 0 0] 31)).alloc (.cells #[] 9) := ⟨_, rfl⟩
  rw [← hw3] at f0 f1 f2 fb ⊢
  obtain ⟨bx, hbx⟩ : ∃ bx, bx = W.heap.size := ⟨_, rfl⟩
  obtain ⟨rb, hrb⟩ : ∃ rb, rb = W.heap.size + 1 := ⟨_, rfl⟩
  obtain ⟨e0, he0⟩ : ∃ e0, e0 = W.heap.size + 1 + 1 := ⟨_, rfl⟩
  rw [← he0] at f2 ⊢
  rw [← hrb] at f1 ⊢
  rw [show (Value.pointer (some ⟨W.heap.size, 0, none⟩)) = .pointer (some ⟨bx, 0, none⟩) by rw [hbx]]
  rw [← hbx] at f0
  have LB := Aside0.mk (show W.heap.size ≤ bx ∧ W.heap.size ≤ rb ∧ W.heap.size ≤ e0 ∧ bx ≠ rb ∧ bx ≠ e0 ∧ rb ≠ e0 from ⟨by omega, by omega, by omega, by omega, by omega, by omega⟩)
  clear hw3 hbx hrb he0
  refine ⟨?_⟩
  refine Kd.R_append_rows Kd.string (w0 := W) W.heap.size rfl (.tmp 18) (.tmp 20) 26 9 (.string ⟨#[]⟩) 16 rfl Try.underlying26 info9 rfl (by decide) (by omega) _ [] S.stable (some ad0) n0 c0 (fun k => W.heap.size ≤ k) (fun _ => False) rfl rfl (empty_own' f2 LB.out.2.2.1) (Kd.C_below HC0.out fb) (fun _ _ h => h) (fun _ h => h.elim) (fun k hk => Nat.le_trans fb.size hk) fb fb.size (by simp; omega) ?_
  intro v1 w4 hR1 hb4 hg4 hat4
  rw [List.nil_append] at hR1
  have h0 : 0 < S.stable.length := by have := EQ.out.1; omega
  obtain ⟨g1, cap1, cur1, hv1, hge1, hh1, hle1, hmx1, hcur1⟩ := own_open hR1 h0
  rw [← EQ.out.1] at hv1 hle1
  subst hv1
  have f0 : w4.heap[bx]? = some (.cells #[.slice (some ad0) n0 c0, .slice A1 n1 c1, .slice A2 n2 c2, .slice A3 n3 c3, .bool fa, .int .i64 fu, .slice A6 n6 c6] 31 (0, 0)) := (hg4.block bx (blk_lt f0) (fun e => LB.out.2.2.2.2.1 (Option.some.inj e))).trans f0
  have f1 : w4.heap[rb]? = some (.cells #[.slice none 0 0, .slice none 0 0, .slice none 0 0, .slice none 0 0, .bool false, .int .i64 0, .slice none 0 0] 31 (0, 0)) := (hg4.block rb (blk_lt f1) (fun e => LB.out.2.2.2.2.2 (Option.some.inj e))).trans f1
  obtain ⟨k0, k1, k2, k3, k4, k5, k6⟩ := cells7 f0
  have z0 : w4.frozen? ⟨bx, 0, none⟩ = false := blk_frozen f0 0
  have s1 : w4.cell? ⟨g1, i, none⟩ = some (.string x) := by
   rw [blk_cell hh1]
   exact hcur1 i x (by rw [HX.out, List.getD_eq_getElem?_getD, List.getElem?_eq_getElem (by have := EQ.out.1; omega)]; rfl)
  have z1 : w4.frozen? ⟨g1, i, none⟩ = false := blk_frozen hh1 i
  have ne1 : g1 ≠ bx := blk_ne hh1 f0 (by decide)
  have ne2 : bx ≠ g1 := fun e => ne1 e.symm
  have F0 := Aside0.mk f0
  have F1 := Aside0.mk f1
  have H1 := Aside0.mk hh1
  have HCU1 := Aside0.mk hcur1
  have HB4 := Aside0.mk hb4
  have L1 := Aside0.mk (show W.heap.size ≤ g1 from hge1)
  have hcz1 : (n0 : Int) ≤ (cap1 : Int) := by omega
  have lbx := blk_lt f0
  have lg1 := blk_lt hh1
  clear f0 f1 f2 fb hR1 hb4 hg4 hat4 h0 hge1 hh1 hmx1 hcur1
  go_wp2_with (at_builtin; with_reducible refine stopHere ?_)
  obtain ⟨w5, hw5⟩ : ∃ w5, w5 = (w4.setCell ⟨bx, 0, none⟩ (.slice (some ⟨g1, 0, none⟩) n0 cap1)).setCell ⟨g1, i, none⟩ (.string d) := ⟨_, rfl⟩
  have s5 : w5.heap.size = w4.heap.size := by rw [hw5]; simp [World.setCell]
  have g5 : w5.heap[bx]? = some (.cells #[.slice (some ⟨g1, 0, none⟩) n0 cap1, .slice A1 n1 c1, .slice A2 n2 c2, .slice A3 n3 c3, .bool fa, .int .i64 fu, .slice A6 n6 c6] 31 (0, 0)) := by rw [hw5]; exact (Below.heap_setCell _ _ _ _ ne2).trans (blk_put F0.out 0 _ rfl)
  have g51 : w5.heap[g1]? = some (.cells (cur1.setIfInBounds i (.string d)) 9 (0, 0)) := by rw [hw5]; exact blk_put ((Below.heap_setCell _ _ _ _ ne1).trans H1.out) i _ rfl
  have NR := Aside0.mk (show rb ≠ g1 from fun e => by have h1 := F1.out; rw [e] at h1; have h2 := h1.symm.trans H1.out; cases h2)
  have g5r : w5.heap[rb]? = some (.cells #[.slice none 0 0, .slice none 0 0, .slice none 0 0, .slice none 0 0, .bool false, .int .i64 0, .slice none 0 0] 31 (0, 0)) := by rw [hw5]; exact (Below.heap_setCell _ _ _ _ NR.out).trans ((Below.heap_setCell _ _ _ _ (fun e => LB.out.2.2.2.1 e.symm)).trans F1.out)
  have hb5 : Below W.heap.size W w5 := by rw [hw5]; exact (HB4.out.setCell (p := ⟨bx, 0, none⟩) LB.out.1 _).setCell (p := ⟨g1, i, none⟩) L1.out _
  rw [← hw5, ← s5]
  obtain ⟨w6, hw6⟩ : ∃ w6, w6 = w5.alloc (.cells #[] 26) := ⟨_, rfl⟩
  have hb56 : Below w5.heap.size w5 w6 := by rw [hw6]; exact below_alloc (Below.refl _ _) _
  have g60 : w6.heap[w5.heap.size]? = some (.cells #[] 26 (0, 0)) := by rw [hw6]; exact blk_new _ _
  obtain ⟨e1, he1⟩ : ∃ e1, e1 = w5.heap.size := ⟨_, rfl⟩
  rw [← he1] at g60 ⊢
  rw [← hw6]
  have g6 := blk_below g5 hb56
  have g61 := blk_below g51 hb56
  have g6r := blk_below g5r hb56
  have hb6 := hb5.trans (hb56.mono hb5.size)
  have hle6 : W.heap.size ≤ e1 := by rw [he1]; exact hb5.size
  clear hw5 hw6 s5 g5 g51 g5r hb5 hb56 he1 k0 k1 k2 k3 k4 k5 k6 z0 s1 z1 F0 F1 H1 HB4 lbx lg1
  refine ⟨?_⟩
  refine Kd.R_append_rows kV (w0 := W) W.heap.size rfl (.tmp 28) (.tmp 30) 27 26 (.slice none 0 0) 24 rfl Try.underlying27 info26 rfl (by decide) (by omega) _ [] us A1 n1 c1 (fun k => W.heap.size ≤ k) (fun _ => False) rfl rfl (empty_own' g60 hle6) (Kd.C_below HC1.out hb6) (fun _ _ h => h) (fun _ h => h.elim) (fun k hk => Nat.le_trans hb6.size hk) hb6 hb6.size (by simp; omega) ?_
  intro v2 w7 hR2 hb7 hg7 hat7
  rw [List.nil_append] at hR2
  have hul : us.length = n1 := HC1.out.1
  obtain ⟨g2, cap2, cur2, hv2, hge2, hh2, hle2, hmx2, hcur2⟩ := own_open hR2 (by omega)
  rw [hul] at hv2 hle2
  subst hv2
  have j1 : e1 ≠ bx := blk_ne g60 g6 (by decide)
  have j2 : e1 ≠ g1 := blk_ne g60 g61 (by decide)
  have j3 : e1 ≠ rb := blk_ne g60 g6r (by decide)
  have f7 : w7.heap[bx]? = some (.cells #[.slice (some ⟨g1, 0, none⟩) n0 cap1, .slice A1 n1 c1, .slice A2 n2 c2, .slice A3 n3 c3, .bool fa, .int .i64 fu, .slice A6 n6 c6] 31 (0, 0)) := (hg7.block bx (blk_lt g6) (fun e => j1 (Option.some.inj e).symm)).trans g6
  have f71 : w7.heap[g1]? = some (.cells (cur1.setIfInBounds i (.string d)) 9 (0, 0)) := (hg7.block g1 (blk_lt g61) (fun e => j2 (Option.some.inj e).symm)).trans g61
  have f7r : w7.heap[rb]? = some (.cells #[.slice none 0 0, .slice none 0 0, .slice none 0 0, .slice none 0 0, .bool false, .int .i64 0, .slice none 0 0] 31 (0, 0)) := (hg7.block rb (blk_lt g6r) (fun e => j3 (Option.some.inj e).symm)).trans g6r
  obtain ⟨k0, k1, k2, k3, k4, k5, k6⟩ := cells7 f7
  have z1 : w7.frozen? ⟨bx, 1, none⟩ = false := blk_frozen f7 1
  obtain ⟨y, hy⟩ : ∃ y, y = S.old[i]'(by have := EQ.out.2.1; omega) := ⟨_, rfl⟩
  have hyo : S.old[i]? = some y := by rw [hy]; exact List.getElem?_eq_getElem _
  obtain ⟨ui, hui, Ai, ci, hue, hyl, hyF⟩ := HUS.out i y hyo
  have hy8 : y.length ≤ 8 := by rw [hy]; exact HOL.out _ (List.getElem_mem _)
  have r7 : w7.cell? ⟨g2, i, none⟩ = some (.slice Ai y.length ci) := by rw [blk_cell hh2, hcur2 i ui hui, hue]
  have ne3 : g2 ≠ bx := blk_ne hh2 f7 (by decide)
  have ne4 : bx ≠ g2 := fun e => ne3 e.symm
  have HY := Aside0.mk hyo
  have F7 := Aside0.mk f7
  have F71 := Aside0.mk f71
  have F7R := Aside0.mk f7r
  have H2 := Aside0.mk hh2
  have HCU2 := Aside0.mk hcur2
  have HB7 := Aside0.mk hb7
  have L2 := Aside0.mk (show W.heap.size ≤ g2 from hge2)
  have HYF := Aside0.mk hyF
  have hcz2 : (n1 : Int) ≤ (cap2 : Int) := by omega
  have lbx := blk_lt f7
  have lg2 := blk_lt hh2
  obtain ⟨ny, hny⟩ : ∃ ny, ny = y.length := ⟨_, rfl⟩
  rw [← hny] at r7 hy8
  have HNY := Aside0.mk hny
  clear g60 g6 g61 g6r hb6 hle6 hR2 hb7 hg7 hat7 hge2 hh2 hmx2 hcur2 j1 j2 j3 f7 f71 f7r hul hy hyo hui hue hyl hyF hny
  go_wp2_with (at_builtin; with_reducible refine stopHere ?_)
  obtain ⟨w8, hw8⟩ : ∃ w8, w8 = w7.setCell ⟨bx, 1, none⟩ (.slice (some ⟨g2, 0, none⟩) n1 cap2) := ⟨_, rfl⟩
  have s8 : w8.heap.size = w7.heap.size := by rw [hw8]; simp [World.setCell]
  have hf8 : ∀ k, k ≠ bx → w8.heap[k]? = w7.heap[k]? := fun k hk => by rw [hw8]; exact Below.heap_setCell _ _ _ _ hk
  have g8 : w8.heap[bx]? = some (.cells #[.slice (some ⟨g1, 0, none⟩) n0 cap1, .slice (some ⟨g2, 0, none⟩) n1 cap2, .slice A2 n2 c2, .slice A3 n3 c3, .bool fa, .int .i64 fu, .slice A6 n6 c6] 31 (0, 0)) := by rw [hw8]; exact blk_put F7.out 1 _ rfl
  have g81 := (hf8 g1 ne1).trans F71.out
  have g82 := (hf8 g2 ne3).trans H2.out
  have g8r := (hf8 rb (fun e => LB.out.2.2.2.1 e.symm)).trans F7R.out
  have hb8 : Below W.heap.size W w8 := by rw [hw8]; exact HB7.out.setCell (p := ⟨bx, 1, none⟩) LB.out.1 _
  rw [← hw8, ← s8]
  obtain ⟨w9, hw9⟩ : ∃ w9, w9 = w8.alloc (.cells #[.string x] 9) := ⟨_, rfl⟩
  have hb89 : Below w8.heap.size w8 w9 := by rw [hw9]; exact below_alloc (Below.refl _ _) _
  have g90 : w9.heap[w8.heap.size]? = some (.cells #[.string x] 9 (0, 0)) := by rw [hw9]; exact blk_new _ _
  obtain ⟨e2, he2⟩ : ∃ e2, e2 = w8.heap.size := ⟨_, rfl⟩
  have hle9 : W.heap.size ≤ e2 := by rw [he2]; exact hb8.size
  have j1 : e2 ≠ bx := fun e => by have := blk_lt g8; omega
  have j2 : e2 ≠ g1 := fun e => by have := blk_lt g81; omega
  have j3 : e2 ≠ rb := fun e => by have := blk_lt g8r; omega
  have j4 : e2 ≠ g2 := fun e => by have := blk_lt g82; omega
  rw [← he2] at g90 ⊢
  rw [← hw9]
  have g9 := blk_below g8 hb89
  have g91 := blk_below g81 hb89
  have g92 := blk_below g82 hb89
  have g9r := blk_below g8r hb89
  have hb9 := hb8.trans (hb89.mono hb8.size)
  clear hw8 hw9 s8 g8 g81 g82 g8r hb8 hb89 he2 hf8 k0 k1 k2 k3 k4 k5 k6 z1 r7 F7 F71 F7R H2 HB7 lbx lg2
  refine ⟨?_⟩
  refine Kd.R_append_rows Kd.string (w0 := W) W.heap.size rfl (.tmp 34) (.tmp 39) 26 9 (.string ⟨#[]⟩) 16 rfl Try.underlying26 info9 rfl (by decide) (by omega) _ [x] y Ai ny ci (fun k => W.heap.size ≤ k) (fun _ => False) rfl rfl (one_own g90 hle9) (by rw [HNY.out]; exact Kd.C_below (Kd.F_now HYF.out) hb9) (fun _ _ h => h) (fun _ h => h.elim) (fun k hk => Nat.le_trans hb9.size hk) hb9 hb9.size (by simp; omega) ?_
  intro v4 wA hR4 hbA hgA hatA
  rw [show [x] ++ y = x :: y from rfl] at hR4
  have HR4 := Aside0.mk hR4
  obtain ⟨g4, cap4, cur4, hv4, hge4, hh4, hle4, hmx4, hcur4⟩ := own_open hR4 (by simp)
  have hlen : (x :: y).length = ny + 1 := by rw [HNY.out]; rfl
  rw [hlen] at hv4 hle4
  subst hv4
  have fA : wA.heap[bx]? = some (.cells #[.slice (some ⟨g1, 0, none⟩) n0 cap1, .slice (some ⟨g2, 0, none⟩) n1 cap2, .slice A2 n2 c2, .slice A3 n3 c3, .bool fa, .int .i64 fu, .slice A6 n6 c6] 31 (0, 0)) := (hgA.block bx (blk_lt g9) (fun e => j1 (Option.some.inj e).symm)).trans g9
  have fA1 : wA.heap[g1]? = some (.cells (cur1.setIfInBounds i (.string d)) 9 (0, 0)) := (hgA.block g1 (blk_lt g91) (fun e => j2 (Option.some.inj e).symm)).trans g91
  have fAr : wA.heap[rb]? = some (.cells #[.slice none 0 0, .slice none 0 0, .slice none 0 0, .slice none 0 0, .bool false, .int .i64 0, .slice none 0 0] 31 (0, 0)) := (hgA.block rb (blk_lt g9r) (fun e => j3 (Option.some.inj e).symm)).trans g9r
  have fA2 : wA.heap[g2]? = some (.cells cur2 26 (0, 0)) := (hgA.block g2 (blk_lt g92) (fun e => j4 (Option.some.inj e).symm)).trans g92
  obtain ⟨k0, k1, k2, k3, k4, k5, k6⟩ := cells7 fA
  have rb0 : wA.cell? ⟨rb, 0, none⟩ = some (.slice none 0 0) := by rw [blk_cell fAr]; rfl
  have rz0 : wA.frozen? ⟨rb, 0, none⟩ = false := blk_frozen fAr 0
  have rb1 : wA.cell? ⟨rb, 1, none⟩ = some (.slice none 0 0) := by rw [blk_cell fAr]; rfl
  have rz1 : wA.frozen? ⟨rb, 1, none⟩ = false := blk_frozen fAr 1
  have rb2 : wA.cell? ⟨rb, 2, none⟩ = some (.slice none 0 0) := by rw [blk_cell fAr]; rfl
  have rz2 : wA.frozen? ⟨rb, 2, none⟩ = false := blk_frozen fAr 2
  have rb3 : wA.cell? ⟨rb, 3, none⟩ = some (.slice none 0 0) := by rw [blk_cell fAr]; rfl
  have rz3 : wA.frozen? ⟨rb, 3, none⟩ = false := blk_frozen fAr 3
  have rb4 : wA.cell? ⟨rb, 4, none⟩ = some (.bool false) := by rw [blk_cell fAr]; rfl
  have rz4 : wA.frozen? ⟨rb, 4, none⟩ = false := blk_frozen fAr 4
  have rb5 : wA.cell? ⟨rb, 5, none⟩ = some (.int .i64 0) := by rw [blk_cell fAr]; rfl
  have rz5 : wA.frozen? ⟨rb, 5, none⟩ = false := blk_frozen fAr 5
  have rb6 : wA.cell? ⟨rb, 6, none⟩ = some (.slice none 0 0) := by rw [blk_cell fAr]; rfl
  have rz6 : wA.frozen? ⟨rb, 6, none⟩ = false := blk_frozen fAr 6
  have rA : ∃ u, wA.cell? ⟨g2, i, none⟩ = some u := by
   obtain ⟨ui, hui, _⟩ := HUS.out i y HY.out
   exact ⟨_, by rw [blk_cell fA2]; exact HCU2.out i ui hui⟩
  obtain ⟨uA, rA⟩ := rA
  have zA : wA.frozen? ⟨g2, i, none⟩ = false := blk_frozen fA2 i
  have ne5 : rb ≠ g2 := blk_ne fAr fA2 (by decide)
  have ne6 : g2 ≠ rb := fun e => ne5 e.symm
  have ne7 : bx ≠ rb := LB.out.2.2.2.1
  have ne8 : rb ≠ bx := fun e => ne7 e.symm
  have NE5 := Aside0.mk ne5
  have FA1 := Aside0.mk fA1
  have FA2 := Aside0.mk fA2
  have FAR := Aside0.mk fAr
  have HBA := Aside0.mk hbA
  have HC4 := Aside0.mk hle4
  have hcn1 := Aside0.mk hle1
  have hcn2 := Aside0.mk hle2
  have hcz4 : ((ny : Int) + 1) ≤ (cap4 : Int) := by omega
  clear g90 hle9 j1 j2 j3 j4 g9 g91 g92 g9r hb9 hR4 hbA hgA hatA hge4 hh4 hmx4 hcur4 hlen fA fA1 fAr fA2
  by_cases h8 : 8 < ny + 1
  ·have h8d : decide (8 < (ny : Int) + 1) = true := decide_eq_true (by omega)
   have h8c : 8 ≤ cap4 := by omega
   have h8z : (8 : Int) ≤ (cap4 : Int) := by omega
   go_wp2_with fail
   obtain ⟨wB, hwB⟩ : ∃ wB, wB = wA.setCell ⟨g2, i, none⟩ (.slice (some ⟨g4, 0, none⟩) 8 cap4) := ⟨_, rfl⟩
   have hfB : ∀ k, k ≠ g2 → wB.heap[k]? = wA.heap[k]? := fun k hk => by rw [hwB]; exact Below.heap_setCell _ _ _ _ hk
   have fBr : wB.heap[rb]? = some (.cells #[.slice none 0 0, .slice none 0 0, .slice none 0 0, .slice none 0 0, .bool false, .int .i64 0, .slice none 0 0] 31 (0, 0)) := (hfB rb NE5.out).trans FAR.out
   have hB2 : wB.heap[g2]? = some (.cells (cur2.setIfInBounds i (.slice (some ⟨g4, 0, none⟩) 8 cap4)) 26 (0, 0)) := by rw [hwB]; exact blk_put FA2.out i _ rfl
   have hbB : Below W.heap.size W wB := by rw [hwB]; exact HBA.out.setCell (p := ⟨g2, i, none⟩) L2.out _
   refine bodyPost_ret (results_c rfl _ _ rb 31 #[.slice (some ⟨g1, 0, none⟩) n0 cap1, .slice (some ⟨g2, 0, none⟩) n1 cap2, .slice A2 n2 c2, .slice A3 n3 c3, .bool fa, .int .i64 fu, .slice A6 n6 c6] (0, 0) _ rfl (by rw [← hwB]; exact set7_blk fBr (.slice (some ⟨g1, 0, none⟩) n0 cap1) (.slice (some ⟨g2, 0, none⟩) n1 cap2) (.slice A2 n2 c2) (.slice A3 n3 c3) (.bool fa) (.int .i64 fu) (.slice A6 n6 c6)) Try.underlying31 rfl (by kernel_rfl)) rfl ?_
   rw [← hwB]
   refine ⟨_, rfl, ?_, set7_below hbB LB.out.2.1 (.slice (some ⟨g1, 0, none⟩) n0 cap1) (.slice (some ⟨g2, 0, none⟩) n1 cap2) (.slice A2 n2 c2) (.slice A3 n3 c3) (.bool fa) (.int .i64 fu) (.slice A6 n6 c6)⟩
   have hfar : ∀ k, k ≠ rb → (set7 wB rb (.slice (some ⟨g1, 0, none⟩) n0 cap1) (.slice (some ⟨g2, 0, none⟩) n1 cap2) (.slice A2 n2 c2) (.slice A3 n3 c3) (.bool fa) (.int .i64 fu) (.slice A6 n6 c6)).heap[k]? = wB.heap[k]? := fun k hk => set7_far wB rb (.slice (some ⟨g1, 0, none⟩) n0 cap1) (.slice (some ⟨g2, 0, none⟩) n1 cap2) (.slice A2 n2 c2) (.slice A3 n3 c3) (.bool fa) (.int .i64 fu) (.slice A6 n6 c6) k hk
   show RefIs (set7 wB rb (.slice (some ⟨g1, 0, none⟩) n0 cap1) (.slice (some ⟨g2, 0, none⟩) n1 cap2) (.slice A2 n2 c2) (.slice A3 n3 c3) (.bool fa) (.int .i64 fu) (.slice A6 n6 c6)) _ _ _
   obtain ⟨wC, hwC⟩ : ∃ wC, wC = set7 wB rb (.slice (some ⟨g1, 0, none⟩) n0 cap1) (.slice (some ⟨g2, 0, none⟩) n1 cap2) (.slice A2 n2 c2) (.slice A3 n3 c3) (.bool fa) (.int .i64 fu) (.slice A6 n6 c6) := ⟨_, rfl⟩
   have hbC : Below W.heap.size W wC := by rw [hwC]; exact set7_below hbB LB.out.2.1 (.slice (some ⟨g1, 0, none⟩) n0 cap1) (.slice (some ⟨g2, 0, none⟩) n1 cap2) (.slice A2 n2 c2) (.slice A3 n3 c3) (.bool fa) (.int .i64 fu) (.slice A6 n6 c6)
   rw [← hwC] at hfar ⊢
   have hgne : g1 ≠ rb := fun e => NR.out e.symm
   have hg12 : g1 ≠ g2 := blk_ne FA1.out FA2.out (by decide)
   have h1C : wC.heap[g1]? = some (.cells (cur1.setIfInBounds i (.string d)) 9 (0, 0)) := (hfar g1 hgne).trans ((hfB g1 hg12).trans FA1.out)
   have h2C := (hfar g2 (fun e => NE5.out e.symm)).trans hB2
   have hV5 : Kd.V Kd.string 9 wC 0 (fun k => W.heap.size ≤ k) (.slice (some ⟨g4, 0, none⟩) 8 cap4) ((x :: y).take 8) := by
    have hr := Kd.R_step (Kd.R_types (Kd.R_types HR4.out FA2.out (by decide)) FAR.out (by decide)) (fun k hk _ => (hfar k hk.2).trans (hfB k hk.1.2))
    have hv := Kd.V_mono (Kd.R_V (base' := 0) hr) (fun k hk => hk.1.1)
    exact ⟨_, _, by rw [show ((x :: y).take 8).length = 8 by rw [List.length_take]; have h1 := HNY.out; simp; omega], by rw [show ((x :: y).take 8).length = 8 by rw [List.length_take]; have h1 := HNY.out; simp; omega]; have h2 := HC4.out; omega, Kd.F_take (Kd.V_at hv).2.2 (by have h1 := HNY.out; simp; omega)⟩
   exact rch_end HA.out EQ.out hbC i (by have := EQ.out.1; omega) (by have := EQ.out.2.1; omega) d x y HY.out h1C HCU1.out h2C HCU2.out hV5 HUS.out L1.out L2.out hcn1 hcn2 hnm hnm1
  ·have h8d : decide (8 < (ny : Int) + 1) = false := decide_eq_false (by omega)
   go_wp2_with fail
   obtain ⟨wB, hwB⟩ : ∃ wB, wB = wA.setCell ⟨g2, i, none⟩ (.slice (some ⟨g4, 0, none⟩) (ny + 1) cap4) := ⟨_, rfl⟩
   have hfB : ∀ k, k ≠ g2 → wB.heap[k]? = wA.heap[k]? := fun k hk => by rw [hwB]; exact Below.heap_setCell _ _ _ _ hk
   have fBr : wB.heap[rb]? = some (.cells #[.slice none 0 0, .slice none 0 0, .slice none 0 0, .slice none 0 0, .bool false, .int .i64 0, .slice none 0 0] 31 (0, 0)) := (hfB rb NE5.out).trans FAR.out
   have hB2 : wB.heap[g2]? = some (.cells (cur2.setIfInBounds i (.slice (some ⟨g4, 0, none⟩) (ny + 1) cap4)) 26 (0, 0)) := by rw [hwB]; exact blk_put FA2.out i _ rfl
   have hbB : Below W.heap.size W wB := by rw [hwB]; exact HBA.out.setCell (p := ⟨g2, i, none⟩) L2.out _
   refine bodyPost_ret (results_c rfl _ _ rb 31 #[.slice (some ⟨g1, 0, none⟩) n0 cap1, .slice (some ⟨g2, 0, none⟩) n1 cap2, .slice A2 n2 c2, .slice A3 n3 c3, .bool fa, .int .i64 fu, .slice A6 n6 c6] (0, 0) _ rfl (by rw [← hwB]; exact set7_blk fBr (.slice (some ⟨g1, 0, none⟩) n0 cap1) (.slice (some ⟨g2, 0, none⟩) n1 cap2) (.slice A2 n2 c2) (.slice A3 n3 c3) (.bool fa) (.int .i64 fu) (.slice A6 n6 c6)) Try.underlying31 rfl (by kernel_rfl)) rfl ?_
   rw [← hwB]
   refine ⟨_, rfl, ?_, set7_below hbB LB.out.2.1 (.slice (some ⟨g1, 0, none⟩) n0 cap1) (.slice (some ⟨g2, 0, none⟩) n1 cap2) (.slice A2 n2 c2) (.slice A3 n3 c3) (.bool fa) (.int .i64 fu) (.slice A6 n6 c6)⟩
   have hfar : ∀ k, k ≠ rb → (set7 wB rb (.slice (some ⟨g1, 0, none⟩) n0 cap1) (.slice (some ⟨g2, 0, none⟩) n1 cap2) (.slice A2 n2 c2) (.slice A3 n3 c3) (.bool fa) (.int .i64 fu) (.slice A6 n6 c6)).heap[k]? = wB.heap[k]? := fun k hk => set7_far wB rb (.slice (some ⟨g1, 0, none⟩) n0 cap1) (.slice (some ⟨g2, 0, none⟩) n1 cap2) (.slice A2 n2 c2) (.slice A3 n3 c3) (.bool fa) (.int .i64 fu) (.slice A6 n6 c6) k hk
   show RefIs (set7 wB rb (.slice (some ⟨g1, 0, none⟩) n0 cap1) (.slice (some ⟨g2, 0, none⟩) n1 cap2) (.slice A2 n2 c2) (.slice A3 n3 c3) (.bool fa) (.int .i64 fu) (.slice A6 n6 c6)) _ _ _
   obtain ⟨wC, hwC⟩ : ∃ wC, wC = set7 wB rb (.slice (some ⟨g1, 0, none⟩) n0 cap1) (.slice (some ⟨g2, 0, none⟩) n1 cap2) (.slice A2 n2 c2) (.slice A3 n3 c3) (.bool fa) (.int .i64 fu) (.slice A6 n6 c6) := ⟨_, rfl⟩
   have hbC : Below W.heap.size W wC := by rw [hwC]; exact set7_below hbB LB.out.2.1 (.slice (some ⟨g1, 0, none⟩) n0 cap1) (.slice (some ⟨g2, 0, none⟩) n1 cap2) (.slice A2 n2 c2) (.slice A3 n3 c3) (.bool fa) (.int .i64 fu) (.slice A6 n6 c6)
   rw [← hwC] at hfar ⊢
   have hgne : g1 ≠ rb := fun e => NR.out e.symm
   have hg12 : g1 ≠ g2 := blk_ne FA1.out FA2.out (by decide)
   have h1C : wC.heap[g1]? = some (.cells (cur1.setIfInBounds i (.string d)) 9 (0, 0)) := (hfar g1 hgne).trans ((hfB g1 hg12).trans FA1.out)
   have h2C := (hfar g2 (fun e => NE5.out e.symm)).trans hB2
   have hV5 : Kd.V Kd.string 9 wC 0 (fun k => W.heap.size ≤ k) (.slice (some ⟨g4, 0, none⟩) (ny + 1) cap4) ((x :: y).take 8) := by
    have hr := Kd.R_step (Kd.R_types (Kd.R_types HR4.out FA2.out (by decide)) FAR.out (by decide)) (fun k hk _ => (hfar k hk.2).trans (hfB k hk.1.2))
    have hv := Kd.V_mono (Kd.R_V (base' := 0) hr) (fun k hk => hk.1.1)
    rw [List.take_of_length_le (by have h1 := HNY.out; simp; omega)]
    exact hv
   exact rch_end HA.out EQ.out hbC i (by have := EQ.out.1; omega) (by have := EQ.out.2.1; omega) d x y HY.out h1C HCU1.out h2C HCU2.out hV5 HUS.out L1.out L2.out hcn1 hcn2 hnm hnm1
end Go.Proofs.Ytflajmgichdhhaa.PG
namespace Go.Proofs.Ytflajmgichdhhaa.PG
open Go.RowKit Go.Proofs.YtflajmgichdhhaaW.PrintWords Go.Proofs.YtflajmgichdhhaaW.PrintLast Go.Proofs.YtflajmgichdhhaaW.PrintMore
set_option linter.unusedVariables false
set_option linter.unusedSimpArgs false
structure EndAt (W w : World) (okk : Nat → Prop) (bx rb : Nat) (cells : Array Value) (v9 : Value) (xs : List S99) (S : DevS) : Prop where
  bel : Below W.heap.size W w
  box : w.heap[bx]? = some (.cells cells 31 (0, 0))
  res : w.heap[rb]? = some (.cells #[.slice none 0 0, .slice none 0 0, .slice none 0 0, .slice none 0 0, .bool false, .int .i64 0, .slice none 0 0] 31 (0, 0))
  ref : RefIs w (fun k => okk k ∧ some k ≠ v9.ownBlock) (.agg cells) S
  row : Kd.R k99 99 w W.heap.size (fun k => W.heap.size + 1 + 1 ≤ k) v9 xs
theorem RefIs.agg {W : World} {ok : Nat → Prop} {S : DevS} {v0 v1 v2 v3 v4 v5 v6 : Value} (h : RefIs W ok (.agg #[v0, v1, v2, v3, v4, v5, v6]) S) : ∃ fl fu sv, v4 = .bool S.failed ∧ v5 = .int .i64 fu ∧ RefAt W ok (.agg #[v0, v1, v2, v3, v4, v5, v6]) v0 v1 v2 v3 v6 fl fu sv S := by
 obtain ⟨w0, w1, w2, w3, w6, fl, fu, sv, h⟩ := h
 have e := h.hv
 injection e with e
 have e0 := congrArg (fun a => a[0]?) e
 have e1 := congrArg (fun a => a[1]?) e
 have e2 := congrArg (fun a => a[2]?) e
 have e3 := congrArg (fun a => a[3]?) e
 have e4 := congrArg (fun a => a[4]?) e
 have e5 := congrArg (fun a => a[5]?) e
 have e6 := congrArg (fun a => a[6]?) e
 simp at e0 e1 e2 e3 e4 e5 e6
 subst e0 e1 e2 e3 e6
 exact ⟨fl, fu, sv, e4, e5, h⟩
def numB (l : List Int) (all : Bool) (k : Nat) : Nat := if all = true then 140 else bytesAt l k
theorem empty_ok {α : Type} {d : Kd α} {e : Nat} {w : World} {B g : Nat} {ok : Nat → Prop} (hb : w.heap[g]? = some (.cells #[] e (0, 0))) (hle : B ≤ g) (hok : ok g) : Kd.R d e w B ok (.slice (some ⟨g, 0, none⟩) 0 0) [] := by
 refine ⟨fun k hk => ?_, [], ⟨by simp, Or.inr ⟨g, 0, #[], rfl, hle, hb, Nat.le_refl _, Nat.zero_le _, by simp, by simp⟩⟩, Reps.none _ _⟩
 simp [Value.ownBlock] at hk
 rw [← hk]
 exact hok
theorem filter_step' (p : S99 → Bool) (xs : List S99) (j : Nat) (h : j < xs.length) : (xs.take (j + 1)).filter (fun a => !p a) = (xs.take j).filter (fun a => !p a) ++ (if p xs[j] = true then [] else [xs[j]]) := by
 rw [List.take_succ_eq_append_getElem h, List.filter_append, List.filter_cons]
 cases p xs[j] <;> simp
set_option maxRecDepth 100000 in
set_option maxHeartbeats 8000000 in
theorem end_ref {W : World} {ok : Nat → Prop} {v : Value} {S : DevS} {kk : Nat} (hR : RefIs W ok v S) (hF : Fine kk S) (hkk : kk ≤ 1000000) (p : S99 → Bool) (sys : Int) (hp : ∀ w, p w = (decide (sys = 0) || (w.f0 == sys))) (A : Option Addr) (c : Nat) (l nums : List Int) (hC : Kd.C (Kd.int .i64) W A l.length l) (hlc : l.length ≤ c) (hlm : l.length ≤ 4611686018427387904) (all : Bool) (hall : all = true → l.length = 0) (hnum : ∀ k, k < S.pend.length → bytesAt nums k = numB l all k) :
  Calls Try.prog 30 #[v, .int .i64 sys, .slice A l.length c, .bool all] W fun e W' => RChPost ok (finishS p nums S) W e W' := by
 obtain ⟨A0, A1, A2, A3, A6, c0, c1, c2, c3, c6, fl, fu, sv, hRC⟩ := hR.open_
 obtain rfl := hRC.hv
 have HR := Aside0.mk hR
 have HF := Aside0.mk hF
 have HP := Aside0.mk hp
 have HC := Aside0.mk hC
 have HNU := Aside0.mk hnum
 have hpl : S.pend.length ≤ 1000000 := Nat.le_trans hF.plen hkk
 have HALL := Aside0.mk hall
 obtain ⟨n0, hn0⟩ : ∃ n0, n0 = S.stable.length := ⟨_, rfl⟩
 obtain ⟨n1, hn1⟩ : ∃ n1, n1 = S.old.length := ⟨_, rfl⟩
 obtain ⟨n2, hn2⟩ : ∃ n2, n2 = S.pend.length := ⟨_, rfl⟩
 obtain ⟨n3, hn3⟩ : ∃ n3, n3 = fl.length := ⟨_, rfl⟩
 obtain ⟨n6, hn6⟩ : ∃ n6, n6 = sv.length := ⟨_, rfl⟩
 obtain ⟨fa, hfa⟩ : ∃ fa, fa = S.failed := ⟨_, rfl⟩
 rw [← hn0, ← hn1, ← hn2, ← hn3, ← hn6, ← hfa]
 rw [← hn0, ← hn1, ← hn2, ← hn3, ← hn6, ← hfa] at HR
 rw [← hn2] at hpl
 have EQ2 := Aside0.mk hn2
 clear hR hF hp hC hnum hall hRC hn0 hn1 hn2 hn3 hn6 hfa
 go_enter Try.func30, Try.ntmps30
 go_wp2_with fail
 obtain ⟨f0, f1, f2, fb⟩ := three W (.cells #[.slice A0 n0 c0, .slice A1 n1 c1, .slice A2 n2 c2, .slice A3 n3 c3, .bool fa, .int .i64 fu, .slice A6 n6 c6] 31) (.cells #[.slice none 0 0, .slice none 0 0, .slice none 0 0, .slice none 0 0, .bool false, .int .i64 0, .slice none 0 0] 31) (.cells #[] 99)
 obtain ⟨w3, hw3⟩ : ∃ w3, w3 = ((W.alloc (.cells #[.slice A0 n0 c0, .slice A1 n1 c1, .slice A2 n2 c2, .slice A3 n3 c3, .bool fa, .int .i64 fu, .slice A6 n6 c6] 31)).alloc (.cells #[.slice none 0 0, .slice none 0 0, .slice none 0 0, .slice none 0 0, .bool false, .int .i64 0, .slice none 0 0] 31)).alloc (.cells #[] 99) := ⟨_, rfl⟩
 rw [← hw3] at f0 f1 f2 fb ⊢
 obtain ⟨bx, hbx⟩ : ∃ bx, bx = W.heap.size := ⟨_, rfl⟩
 obtain ⟨rb, hrb⟩ : ∃ rb, rb = W.heap.size + 1 := ⟨_, rfl⟩
 obtain ⟨e0, he0⟩ : ∃ e0, e0 = W.heap.size + 1 + 1 := ⟨_, rfl⟩
 rw [← he0] at f2 ⊢
 rw [← hrb] at f1 ⊢
 rw [show (Value.pointer (some ⟨W.heap.size, 0, none⟩)) = .pointer (some ⟨bx, 0, none⟩) by rw [hbx]]
 rw [← hbx] at f0
 have LB := Aside0.mk (show W.heap.size ≤ bx ∧ W.heap.size ≤ rb ∧ W.heap.size + 1 + 1 ≤ e0 ∧ bx ≠ rb ∧ bx < W.heap.size + 1 + 1 ∧ rb < W.heap.size + 1 + 1 ∧ bx ≠ e0 ∧ rb ≠ e0 from ⟨by omega, by omega, by omega, by omega, by omega, by omega, by omega, by omega⟩)
 obtain ⟨okk, hokk⟩ : ∃ okk : Nat → Prop, okk = fun k => (ok k ∧ k < W.heap.size) ∨ W.heap.size + 1 + 1 ≤ k := ⟨_, rfl⟩
 have hE0 : EndAt W w3 okk bx rb #[.slice A0 n0 c0, .slice A1 n1 c1, .slice A2 n2 c2, .slice A3 n3 c3, .bool fa, .int .i64 fu, .slice A6 n6 c6] (.slice (some ⟨e0, 0, none⟩) 0 0) [] S :=
  ⟨fb, f0, f1, ((HR.out.mono (ok' := fun k => ok k ∧ k < W.heap.size) (fun k hk hlt => ⟨hk, hlt⟩)).below fb).mono (fun k hk _ => ⟨by rw [hokk]; exact Or.inl hk, fun e => by have h1 := hk.2; have h2 : k = e0 := Option.some.inj e; have h3 := LB.out.2.2.1; omega⟩), empty_ok f2 (by have := LB.out.2.2.1; omega) LB.out.2.2.1⟩
 have RBE := Aside0.mk hrb
 have HOKK := Aside0.mk (show ∀ k, W.heap.size + 1 + 1 ≤ k → okk k from fun k hk => by rw [hokk]; exact Or.inr hk)
 have HOKO := Aside0.mk (show ∀ k, okk k → k ≠ bx ∧ k ≠ rb ∧ (ok k ∨ W.heap.size ≤ k) from fun k hk => by
  rw [hokk] at hk
  rcases hk with hk | hk
  ·exact ⟨by omega, by omega, Or.inl hk.1⟩
  ·exact ⟨by omega, by omega, Or.inr (by omega)⟩)
 have HE0 := Aside0.mk hE0
 clear hw3 hbx hrb he0 hokk hE0 f0 f1 f2 fb
 go_loopg [9, 10, 11, 12, 13] n2 (fun gg s9 s10 s11 _ _ wr => ∃ (j i : Nat) (v9 : Value) (S' : DevS) (cells : Array Value), v9 = s9 ∧ s11 = .int .i64 j ∧ s10 = .int .i64 i ∧ j ≤ n2 ∧ n2 - j ≤ gg ∧ i ≤ j ∧ Aside0 (EndAt W wr okk bx rb cells v9 ((S.pend.take j).filter fun a => !p a) S') ∧ Aside0 (endF p nums (S.pend.take j) (0, S) = (i, S')) ∧ Aside0 (Fine kk S'))
 case atStart => exact ⟨0, 0, _, S, _, rfl, by go_num, by go_num, Nat.zero_le _, by omega, Nat.le_refl _, HE0, ⟨rfl⟩, HF⟩
 case round =>
  clear HE0
  obtain ⟨j, i, u9, S', cells, hu9, rfl, rfl, hj, hgg, hij, HE, HEF, HFS⟩ := hrel
  subst hu9
  have hsame := endF_same p nums (S.pend.take j) (0, S)
  rw [HEF.out] at hsame
  obtain ⟨B0, B1, B2, B3, B6, d0, d1, d2, d3, d6, gl, fu, sw, hRC⟩ := HE.out.ref.open_
  have hcv := hRC.hv
  injection hcv with hcv
  obtain ⟨n0, hn0⟩ : ∃ n0, n0 = S'.stable.length := ⟨_, rfl⟩
  obtain ⟨n1, hn1⟩ : ∃ n1, n1 = S'.old.length := ⟨_, rfl⟩
  obtain ⟨n3, hn3⟩ : ∃ n3, n3 = gl.length := ⟨_, rfl⟩
  obtain ⟨n6, hn6⟩ : ∃ n6, n6 = sw.length := ⟨_, rfl⟩
  obtain ⟨fa, hfa⟩ : ∃ fa, fa = S'.failed := ⟨_, rfl⟩
  have hsp : S'.pend = S.pend := hsame.pend
  rw [← hn0, ← hn1, hsp, ← EQ2.out, ← hn3, ← hn6, ← hfa] at hcv
  subst hcv
  have HN0 := Aside0.mk hn0
  have hC2 := hRC.h2
  rw [hsp, ← EQ2.out] at hC2
  have hC0 := hRC.h0
  rw [← hn0] at hC0
  have HC0' := Aside0.mk hC0
  have HSA := Aside0.mk hsame
  have hbx := HE.out.box
  have lbx := blk_lt hbx
  obtain ⟨k0, k1, k2, k3, k4, k5, k6⟩ := cells7 hbx
  clear hRC hsame hsp hn0 hn1 hn3 hn6 hfa hbx hC0
  by_cases hlt : j < n2
  ·have hltz : (j : Int) < (n2 : Int) := by omega
   obtain ⟨ad, e, h0, h1, h2⟩ := at_T99 hC2 (j : Int) (by omega) hltz
   have hjs : j < S.pend.length := by have := EQ2.out; omega
   rw [rdT99_at _ j hjs] at h0 h1 h2
   subst e
   rw [Int.toNat_natCast] at h0 h1 h2
   have hst := endF_step p nums S.pend j hjs (0, S)
   rw [HEF.out] at hst
   have hfl := filter_step' p S.pend j hjs
   have hfa := HF.out.pend _ (List.getElem_mem hjs)
   obtain ⟨a, ha⟩ : ∃ a, a = S.pend[j] := ⟨_, rfl⟩
   rw [← ha] at h0 h1 h2 hst hfa hfl
   have hba := World.block_lt_of_cell? wr _ h0
   have hba0 : ad.block < wr.heap.size := by
    have e : (ad.add (j * 3)).block = ad.block := by unfold Addr.add; split <;> rfl
    rw [e] at hba; exact hba
   have HST := Aside0.mk hst
   have HFL := Aside0.mk hfl
   have HFA := Aside0.mk hfa
   have hpa := HP.out a
   clear hst hfl hfa ha hC2 hjs
   cases hq : p a with
   | false =>
    rw [hq] at hpa HFL
    have hx : sys ≠ 0 ∧ a.f0 ≠ sys := by
     have := hpa.symm
     simp at this
     exact this
    have s1 : (sys != 0) = true := bne_iff_ne.2 hx.1
    have s2 : (a.f0 != sys) = true := bne_iff_ne.2 hx.2
    have HQ := Aside0.mk hq
    clear hpa hx hq
    go_wp2_with (at_builtin; with_reducible refine stopHere ?_)
    obtain ⟨w5, hw5⟩ : ∃ w5, w5 = wr.alloc (.cells #[.int .i64 a.f0, .int .i64 a.f1, .string a.f2] 99) := ⟨_, rfl⟩
    have hb5 : Below wr.heap.size wr w5 := by rw [hw5]; exact below_alloc (Below.refl _ _) _
    have hs5 : wr.heap.size + 1 = w5.heap.size := by rw [hw5]; simp
    rw [← hw5, hs5]
    have HB5 := Aside0.mk hb5
    have HS5 := Aside0.mk hs5
    have hwr : W.heap.size + 1 + 1 ≤ wr.heap.size := by have := blk_lt HE.out.res; have := RBE.out; omega
    have HWR := Aside0.mk hwr
    have hfl1 : ((S.pend.take j).filter fun a => !p a).length ≤ 1000000 := Nat.le_trans (List.length_filter_le _ _) (by simp; omega)
    clear hw5 hs5 hb5 k0 k1 k2 k3 k4 k5 k6 h0 h1 h2 lbx hba hba0
    refine ⟨?_⟩
    refine Kd.R_append k99 (w0 := W) W.heap.size rfl (.tmp 35) (.tmp 37) 28 99 (.agg #[.int .i64 0, .int .i64 0, .string ⟨#[]⟩]) 32 rfl Try.underlying28 info99 rfl (by decide) (by omega) _ ((S.pend.take j).filter fun a => !p a) a [.int .i64 a.f0, .int .i64 a.f1, .string a.f2] (fun k => W.heap.size + 1 + 1 ≤ k) (fun _ => False) rfl rfl (k99_mkM _ _ _ a) (fun _ h => h.elim) (fun k hk => by have h1 := HS5.out; omega) (Kd.R_below HE.out.row HB5.out) (HE.out.bel.trans (HB5.out.mono HE.out.bel.size)) (by have := HS5.out; omega) (by omega) ?_
    intro v9 w7 hR7 hb7 hg7 hat7
    have HFE := HFL.out
    rw [if_neg (by simp)] at HFE
    have hbox := blk_below HE.out.box HB5.out
    have hres := blk_below HE.out.res HB5.out
    have hrow5 := Kd.R_below HE.out.row HB5.out
    have hE7 : EndAt W w7 okk bx rb #[.slice B0 n0 d0, .slice B1 n1 d1, .slice (some ad) n2 d2, .slice B3 n3 d3, .bool fa, .int .i64 fu, .slice B6 n6 d6] v9 ((S.pend.take (j + 1)).filter fun a => !p a) S' := by
     refine ⟨hb7, (hg7.block bx (blk_lt hbox) (fun z => Kd.R_ne hrow5 hbox (by decide) z)).trans hbox, (hg7.block rb (blk_lt hres) (fun z => Kd.R_ne hrow5 hres (by decide) z)).trans hres, ?_, by rw [HFE]; exact hR7⟩
     have r1 := (HE.out.ref.below HB5.out).mono (ok' := fun k => (okk k ∧ some k ≠ u9.ownBlock) ∧ k < w5.heap.size) (fun k hk hlt => ⟨hk, hlt⟩)
     have r2 := r1.step (W1 := w7) (fun k hk hlt => hg7.block k hlt hk.1.2)
     refine r2.mono (fun k hk hlt => ⟨hk.1.1, fun e => ?_⟩)
     rcases hat7 with h | ⟨b, h, hle⟩
     ·exact hk.1.2 (e.trans h)
     ·rw [h] at e
      have h1 := Option.some.inj e
      have h2 := hk.2
      omega
    have HE7 := Aside0.mk hE7
    have HEF7 := Aside0.mk (show endF p nums (S.pend.take (j + 1)) (0, S) = (i, S') by rw [HST.out]; unfold endStep; rw [if_neg (by rw [HQ.out]; simp)])
    clear hR7 hb7 hg7 hat7 HFE hbox hres hrow5 hE7 HE
    go_wp2_with fail
    go_roundg (n2 - (j + 1))
    case measure => omega
    case rel => exact ⟨j + 1, i, _, S', _, rfl, by go_num, by go_num, by omega, Nat.le_refl _, by omega, HE7, HEF7, HFS⟩
   | true =>
    rw [hq] at hpa
    have hx : (sys != 0) = false ∨ ((sys != 0) = true ∧ (a.f0 != sys) = false) := by
     by_cases e : sys = 0
     ·exact Or.inl (by simp [e])
     ·refine Or.inr ⟨bne_iff_ne.2 e, ?_⟩
      have := hpa.symm
      simp [e] at this
      simp [this]
    have HQ := Aside0.mk hq
    clear hpa hq
    have hin : i < S.pend.length := by have := EQ2.out; omega
    have HNB := Aside0.mk (HNU.out i hin)
    clear hin
    obtain ⟨q, hq1⟩ := Int.eq_ofNat_of_zero_le HFA.out.2.2.1
    have hqn : q < n0 := by have h1 := HFA.out.2.2.2.1; have h2 : S'.stable.length = S.stable.length := HSA.out.sl; have h3 := HN0.out; omega
    have hqz : (q : Int) < (n0 : Int) := by omega
    rw [hq1] at h1
    obtain ⟨adq, eq0, y0⟩ := Kd.at_string HC0'.out (q : Int) (by omega) hqz
    rw [Int.toNat_natCast, show rdOf ByteArray.empty S'.stable (q : Int) = S'.stable.getD q ⟨#[]⟩ by unfold rdOf; rw [Int.toNat_natCast]; rfl] at y0
    obtain ⟨y, hy⟩ : ∃ y, y = S'.stable.getD q ⟨#[]⟩ := ⟨_, rfl⟩
    rw [← hy] at y0
    have hysz : y.size = 140 := by rw [hy]; exact HFS.out.size _ (getD_mem _ _ _ (by have := HN0.out; omega))
    have hdsz : a.f2.size = 140 := HFA.out.2.2.2.2
    subst eq0
    obtain ⟨dat, hdat⟩ : ∃ dat, dat = a.f2 := ⟨_, rfl⟩
    rw [← hdat] at h2 hdsz
    have HEND := Aside0.mk (show ∀ b, bytesAt nums i = b → endF p nums (S.pend.take (j + 1)) (0, S) = (i + 1, changeS q (dat.extract 0 b ++ y.extract b y.size) S') from fun b hb => by
     rw [HST.out]
     unfold endStep
     rw [if_pos HQ.out]
     unfold endOne cut
     rw [hq1, Int.toNat_natCast, ← hy, ← hdat]
     show (i + 1, changeS q (dat.extract 0 (bytesAt nums i) ++ y.extract (bytesAt nums i) y.size) S') = _
     rw [hb])
    have HCH := Aside0.mk (fun (d' : ByteArray) (w : World) (hb : Below wr.heap.size wr w) => change_ref (HE.out.ref.below hb) q (by have := HN0.out; omega) d' HFS.out.n1 HFS.out.len HFS.out.olen)
    have HFL2 := Aside0.mk (show ((S.pend.take (j + 1)).filter fun a => !p a) = ((S.pend.take j).filter fun a => !p a) by rw [HFL.out, if_pos HQ.out, List.append_nil])
    have HQN := Aside0.mk (show q < S'.stable.length by have := HN0.out; omega)
    have hyb := World.block_lt_of_cell? wr _ y0
    have hyb0 : adq.block < wr.heap.size := by
     have e : (adq.add q).block = adq.block := by unfold Addr.add; split <;> rfl
     rw [e] at hyb; exact hyb
    clear hq1 hy hdat HFL
    go_upto_region 7 with (fail)
    obtain ⟨w5, hw5⟩ : ∃ w5, w5 = wr.alloc (.cells #[.int .i64 a.f0, .int .i64 (q : Int), .string dat] 99) := ⟨_, rfl⟩
    have hb5 : Below wr.heap.size wr w5 := by rw [hw5]; exact below_alloc (Below.refl _ _) _
    obtain ⟨tb, htb⟩ : ∃ tb, tb = wr.heap.size := ⟨_, rfl⟩
    have t5 : w5.heap[tb]? = some (.cells #[.int .i64 a.f0, .int .i64 (q : Int), .string dat] 99 (0, 0)) := by rw [hw5, htb]; exact blk_new _ _
    rw [← hw5, ← htb]
    have hbx5 := blk_below HE.out.box hb5
    obtain ⟨p0, p1, p2, p3, p4, p5, p6⟩ := cells7 hbx5
    have t0 : w5.cell? ⟨tb, 0, none⟩ = some (.int .i64 a.f0) := by rw [blk_cell t5]; rfl
    have HBW5 := Aside0.mk (show Below W.heap.size W w5 from HE.out.bel.trans (hb5.mono HE.out.bel.size))
    have t1 : w5.cell? ⟨tb, 1, none⟩ = some (.int .i64 (q : Int)) := by rw [blk_cell t5]; rfl
    have t2 : w5.cell? ⟨tb, 2, none⟩ = some (.string dat) := by rw [blk_cell t5]; rfl
    have ty : w5.cell? (adq.add q) = some (.string y) := (hb5.cell hyb).trans y0
    have HBD := Aside0.mk (show Below wr.heap.size wr w5.drew from hb5.drew)
    have LOW := Aside0.mk (show ∀ b, u9.ownBlock = some b → b < wr.heap.size from Kd.R_lt HE.out.row)
    have HWR := Aside0.mk (show W.heap.size + 1 + 1 ≤ wr.heap.size by have := blk_lt HE.out.res; have := RBE.out; omega)
    clear hw5 htb hb5 t5 hbx5 k0 k1 k2 k3 k4 k5 k6 h0 h1 h2 lbx hba hba0 hyb hyb0 y0
    go_cut [34] from 15 to 68 (fun s34 wx => s34 = .bool false ∧ w5 = wx)
    case first =>
     rcases hx with s1 | ⟨s1, s2⟩
     all_goals
      go_wp2_with fail
      go_meet
      exact ⟨rfl, rfl⟩
    case rest =>
     obtain ⟨rfl, rfl⟩ := hcut
     clear hx
     go_upto_if 42 with (fail)
     go_cut [13] from 15 to 68 (fun s13 wx => ∃ t : Nat, s13 = .int .i64 (t : Int) ∧ t ≤ 140 ∧ bytesAt l i = t ∧ w5 = wx)
     case first =>
      by_cases hil : i < l.length
      ·have hilz : (i : Int) < (l.length : Int) := by omega
       obtain ⟨adl, el, y1⟩ := Kd.at_int (Kd.C_below HC.out HBW5.out) (i : Int) (by omega) hilz
       rw [rd_at l i hil, Int.toNat_natCast] at y1
       have hbv : bytesAt l i = (min (max 0 l[i]) 140).toNat := by unfold bytesAt; rw [List.getElem?_eq_getElem hil]
       obtain ⟨x, hx'⟩ : ∃ x, x = l[i] := ⟨_, rfl⟩
       rw [← hx'] at y1 hbv
       subst el
       have HBV := Aside0.mk hbv
       clear hx' hbv
       by_cases hx0 : 0 < x
       ·by_cases hx1 : 140 < x
        ·go_wp2_with fail
         go_meet
         exact ⟨140, rfl, by omega, by rw [HBV.out]; omega, rfl⟩
        ·obtain ⟨b, rfl⟩ := Int.eq_ofNat_of_zero_le (show 0 ≤ x by omega)
         go_wp2_with fail
         go_meet
         exact ⟨b, rfl, by omega, by rw [HBV.out]; omega, rfl⟩
       ·have hx2 : ¬ 140 < x := by omega
        go_wp2_with fail
        go_meet
        exact ⟨0, rfl, by omega, by rw [HBV.out]; omega, rfl⟩
      ·have hln : decide ((i : Int) < (l.length : Int)) = false := decide_eq_false (by omega)
       go_wp2_with fail
       go_meet
       exact ⟨0, rfl, by omega, by unfold bytesAt; rw [List.getElem?_eq_none (by omega)], rfl⟩
     case rest =>
      obtain ⟨t, rfl, ht, htb, rfl⟩ := hcut
      have HTB := Aside0.mk htb
      clear htb
      go_upto_if 49 with (fail)
      go_cut [13] from 15 to 68 (fun s13 wx => ∃ b : Nat, s13 = .int .i64 (b : Int) ∧ b ≤ 140 ∧ bytesAt nums i = b ∧ w5 = wx)
      case first =>
       cases all with
       | true =>
        go_wp2_with fail
        go_meet
        exact ⟨140, rfl, by omega, HNB.out, rfl⟩
       | false =>
        go_wp2_with fail
        go_meet
        exact ⟨t, rfl, ht, by rw [HNB.out]; exact HTB.out, rfl⟩
      case rest =>
       obtain ⟨b, rfl, hbb, hbn, rfl⟩ := hcut
       have HBB := Aside0.mk hbn
       clear hbn HNB HTB ht
       obtain ⟨S2, hS2⟩ : ∃ S2, S2 = changeS q (dat.extract 0 b ++ y.extract b y.size) S' := ⟨_, rfl⟩
       have HEF2 := Aside0.mk (show endF p nums (S.pend.take (j + 1)) (0, S) = (i + 1, S2) by rw [hS2]; exact HEND.out b HBB.out)
       have HFS2 := Aside0.mk (show Fine kk S2 by rw [hS2]; exact HFS.out.change q HQN.out _ (by rw [ByteArray.size_append, ByteArray.size_extract, ByteArray.size_extract]; omega))
       have HCH2 := Aside0.mk (fun (w : World) (hb : Below wr.heap.size wr w) => HCH.out (dat.extract 0 b ++ y.extract b y.size) w hb)
       rw [← hS2] at HCH2
       have s9 : ¬ 9223372036854775807 < y.size := by omega
       have s6 : ¬ 9223372036854775807 < min b dat.size + (y.size - b) := by omega
       have s7 : b ≤ dat.size := by omega
       have s8 : b ≤ y.size := by omega
       have s7z : (b : Int) ≤ (dat.size : Int) := by omega
       have s8z : (b : Int) ≤ (y.size : Int) := by omega
       clear hS2 HEND HCH hysz hdsz
       go_wp2_with fail
       refine start_ (n := 18) (S := fun w' => w'.cell? ⟨bx, 0, none⟩ = some (.slice (some adq) n0 d0) ∧ w'.cell? ⟨bx, 1, none⟩ = some (.slice B1 n1 d1) ∧ w'.cell? ⟨bx, 2, none⟩ = some (.slice (some ad) n2 d2) ∧ w'.cell? ⟨bx, 3, none⟩ = some (.slice B3 n3 d3) ∧ w'.cell? ⟨bx, 4, none⟩ = some (.bool fa) ∧ w'.cell? ⟨bx, 5, none⟩ = some (.int .i64 fu) ∧ w'.cell? ⟨bx, 6, none⟩ = some (.slice B6 n6 d6) ∧ w'.cell? ⟨tb, 1, none⟩ = some (.int .i64 (q : Int)) ∧ w'.cell? ⟨tb, 2, none⟩ = some (.string dat) ∧ w'.cell? (adq.add q) = some (.string y)) (ds := [17]) #[false, false, false, false, false, false, false, false, false, false, false, false, false, false, false, false, false, false] (by kernel_rfl) rfl rfl ⟨p0, p1, p2, p3, p4, p5, p6, t1, t2, ty⟩ (fun hHeld => ?_)
       refine pure_ (i := 1) (N := some 53) (v := ?_) (a' := ?_) #[false, true, false, false, false, false, false, false, false, false, false, false, false, false, false, false, false, false] rfl rfl (by kernel_rfl) (fun _ _ _ h => h) (Or.inl ⟨by rfl, ?_⟩) ?_ ?_
       rotate_left
       ·intro w'
        go_simp
        with_reducible rfl
       rotate_left
       ·simp only [Act.put, List.setIfInBounds_toArray, List.set_cons_zero, List.set_cons_succ, i64_w, i32_w]
        rfl
       refine pure_ (i := 3) (N := some 55) (v := ?_) (a' := ?_) #[false, true, false, true, false, false, false, false, false, false, false, false, false, false, false, false, false, false] rfl rfl (by kernel_rfl) (fun _ _ _ h => h) (Or.inl ⟨by rfl, ?_⟩) ?_ ?_
       rotate_left
       ·intro w'
        go_simp
        with_reducible rfl
       rotate_left
       ·simp only [Act.put, List.setIfInBounds_toArray, List.set_cons_zero, List.set_cons_succ, i64_w, i32_w]
        rfl
       refine pure_ (i := 5) (N := some 57) (v := ?_) (a' := ?_) #[false, true, false, true, false, true, false, false, false, false, false, false, false, false, false, false, false, false] rfl rfl (by kernel_rfl) (fun _ _ _ h => h) (Or.inl ⟨by rfl, ?_⟩) ?_ ?_
       rotate_left
       ·intro w'
        go_simp
        with_reducible rfl
       rotate_left
       ·simp only [Act.put, List.setIfInBounds_toArray, List.set_cons_zero, List.set_cons_succ, i64_w, i32_w]
        rfl
       refine pure_ (i := 7) (N := some 59) (v := ?_) (a' := ?_) #[false, true, false, true, false, true, false, true, false, false, false, false, false, false, false, false, false, false] rfl rfl (by kernel_rfl) (fun _ _ _ h => h) (Or.inl ⟨by rfl, ?_⟩) ?_ ?_
       rotate_left
       ·intro w'
        go_simp
        with_reducible rfl
       rotate_left
       ·simp only [Act.put, List.setIfInBounds_toArray, List.set_cons_zero, List.set_cons_succ, i64_w, i32_w]
        rfl
       refine pure_ (i := 9) (N := some 61) (v := ?_) (a' := ?_) #[false, true, false, true, false, true, false, true, false, true, false, false, false, false, false, false, false, false] rfl rfl (by kernel_rfl) (fun _ _ _ h => h) (Or.inl ⟨by rfl, ?_⟩) ?_ ?_
       rotate_left
       ·intro w'
        go_simp
        with_reducible rfl
       rotate_left
       ·simp only [Act.put, List.setIfInBounds_toArray, List.set_cons_zero, List.set_cons_succ, i64_w, i32_w]
        rfl
       refine pure_ (i := 13) (N := some 65) (v := ?_) (a' := ?_) #[false, true, false, true, false, true, false, true, false, true, false, false, false, true, false, false, false, false] rfl rfl (by kernel_rfl) (fun _ _ _ h => h) (Or.inl ⟨by rfl, ?_⟩) ?_ ?_
       rotate_left
       ·intro w'
        go_simp
        with_reducible rfl
       rotate_left
       ·simp only [Act.put, List.setIfInBounds_toArray, List.set_cons_zero, List.set_cons_succ, i64_w, i32_w]
        rfl
       refine take_ (i := 0) (N := some 52) (v := ?_) (a' := ?_) #[true, true, false, true, false, true, false, true, false, true, false, false, false, true, false, false, false, false] rfl rfl (by kernel_rfl) (fun _ _ _ h => h) (Or.inl ⟨by rfl, ?_⟩) hHeld ?_ ?_
       rotate_left
       ·rintro w' ⟨s0, s1, s2, s3, s4, s5, s6, s7, s8, s9⟩
        go_simp
        with_reducible rfl
       rotate_left
       ·simp only [Act.put, List.setIfInBounds_toArray, List.set_cons_zero, List.set_cons_succ, i64_w, i32_w]
        rfl
       refine take_ (i := 2) (N := some 54) (v := ?_) (a' := ?_) #[true, true, true, true, false, true, false, true, false, true, false, false, false, true, false, false, false, false] rfl rfl (by kernel_rfl) (fun _ _ _ h => h) (Or.inl ⟨by rfl, ?_⟩) hHeld ?_ ?_
       rotate_left
       ·rintro w' ⟨s0, s1, s2, s3, s4, s5, s6, s7, s8, s9⟩
        go_simp
        with_reducible rfl
       rotate_left
       ·simp only [Act.put, List.setIfInBounds_toArray, List.set_cons_zero, List.set_cons_succ, i64_w, i32_w]
        rfl
       refine take_ (i := 4) (N := some 56) (v := ?_) (a' := ?_) #[true, true, true, true, true, true, false, true, false, true, false, false, false, true, false, false, false, false] rfl rfl (by kernel_rfl) (fun _ _ _ h => h) (Or.inl ⟨by rfl, ?_⟩) hHeld ?_ ?_
       rotate_left
       ·rintro w' ⟨s0, s1, s2, s3, s4, s5, s6, s7, s8, s9⟩
        go_simp
        with_reducible rfl
       rotate_left
       ·simp only [Act.put, List.setIfInBounds_toArray, List.set_cons_zero, List.set_cons_succ, i64_w, i32_w]
        rfl
       refine pure_ (i := 6) (N := some 58) (v := ?_) (a' := ?_) #[true, true, true, true, true, true, true, true, false, true, false, false, false, true, false, false, false, false] rfl rfl (by kernel_rfl) (fun _ _ _ h => h) (Or.inl ⟨by rfl, ?_⟩) ?_ ?_
       rotate_left
       ·intro w'
        go_simp
        with_reducible rfl
       rotate_left
       ·simp only [Act.put, List.setIfInBounds_toArray, List.set_cons_zero, List.set_cons_succ, i64_w, i32_w]
        rfl
       refine take_ (i := 8) (N := some 60) (v := ?_) (a' := ?_) #[true, true, true, true, true, true, true, true, true, true, false, false, false, true, false, false, false, false] rfl rfl (by kernel_rfl) (fun _ _ _ h => h) (Or.inl ⟨by rfl, ?_⟩) hHeld ?_ ?_
       rotate_left
       ·rintro w' ⟨s0, s1, s2, s3, s4, s5, s6, s7, s8, s9⟩
        go_simp
        with_reducible rfl
       rotate_left
       ·simp only [Act.put, List.setIfInBounds_toArray, List.set_cons_zero, List.set_cons_succ, i64_w, i32_w]
        rfl
       refine take_ (i := 10) (N := some 62) (v := ?_) (a' := ?_) #[true, true, true, true, true, true, true, true, true, true, true, false, false, true, false, false, false, false] rfl rfl (by kernel_rfl) (fun _ _ _ h => h) (Or.inl ⟨by rfl, ?_⟩) hHeld ?_ ?_
       rotate_left
       ·rintro w' ⟨s0, s1, s2, s3, s4, s5, s6, s7, s8, s9⟩
        go_simp
        with_reducible rfl
       rotate_left
       ·simp only [Act.put, List.setIfInBounds_toArray, List.set_cons_zero, List.set_cons_succ, i64_w, i32_w]
        rfl
       refine pure_ (i := 11) (N := some 63) (v := ?_) (a' := ?_) #[true, true, true, true, true, true, true, true, true, true, true, true, false, true, false, false, false, false] rfl rfl (by kernel_rfl) (fun _ _ _ h => h) (Or.inl ⟨by rfl, ?_⟩) ?_ ?_
       rotate_left
       ·intro w'
        go_simp
        with_reducible rfl
       rotate_left
       ·simp only [Act.put, List.setIfInBounds_toArray, List.set_cons_zero, List.set_cons_succ, i64_w, i32_w]
        rfl
       refine take_ (i := 12) (N := some 64) (v := ?_) (a' := ?_) #[true, true, true, true, true, true, true, true, true, true, true, true, true, true, false, false, false, false] rfl rfl (by kernel_rfl) (fun _ _ _ h => h) (Or.inl ⟨by rfl, ?_⟩) hHeld ?_ ?_
       rotate_left
       ·rintro w' ⟨s0, s1, s2, s3, s4, s5, s6, s7, s8, s9⟩
        go_simp
        with_reducible rfl
       rotate_left
       ·simp only [Act.put, List.setIfInBounds_toArray, List.set_cons_zero, List.set_cons_succ, i64_w, i32_w]
        rfl
       refine pure_ (i := 14) (N := some 66) (v := ?_) (a' := ?_) #[true, true, true, true, true, true, true, true, true, true, true, true, true, true, true, false, false, false] rfl rfl (by kernel_rfl) (fun _ _ _ h => h) (Or.inl ⟨by rfl, ?_⟩) ?_ ?_
       rotate_left
       ·intro w'
        go_simp
        with_reducible rfl
       rotate_left
       ·simp only [Act.put, List.setIfInBounds_toArray, List.set_cons_zero, List.set_cons_succ, i64_w, i32_w]
        rfl
       refine pure_ (i := 15) (N := some 67) (v := ?_) (a' := ?_) #[true, true, true, true, true, true, true, true, true, true, true, true, true, true, true, true, false, false] rfl rfl (by kernel_rfl) (fun _ _ _ h => h) (Or.inl ⟨by rfl, ?_⟩) ?_ ?_
       rotate_left
       ·intro w'
        go_simp
        with_reducible rfl
       rotate_left
       ·simp only [Act.put, List.setIfInBounds_toArray, List.set_cons_zero, List.set_cons_succ, i64_w, i32_w]
        rfl
       refine one_ (i := 16) (N := some 68) #[true, true, true, true, true, true, true, true, true, true, true, true, true, true, true, true, true, false] rfl rfl (by kernel_rfl) (by decide) (fun K hK => ?_)
       refine goes_ Try.func57 (by kernel_rfl) rfl #[.agg #[.slice (some adq) n0 d0, .slice B1 n1 d1, .slice (some ad) n2 d2, .slice B3 n3 d3, .bool fa, .int .i64 fu, .slice B6 n6 d6], .int .i64 (q : Int), .string (dat.extract 0 b ++ y.extract b y.size)] (by rfl) rfl rfl (by simp only [List.map_toArray, List.map_cons, List.map_nil]; rfl) ?_
       with_reducible refine (HCH2.out _ HBD.out).mono ?_
       rintro e w6 ⟨v6, rfl, hR6, hb6⟩
       obtain ⟨E0, E1, E2, E3, E6, g0, g1, g2, g3, g6, hl, hu, hs, hRC6⟩ := hR6.open_
       obtain rfl := hRC6.hv
       have hbx6 := blk_below (blk_below HE.out.box HBD.out) hb6
       obtain ⟨m0, m1, m2, m3, m4, m5, m6⟩ := cells7 hbx6
       obtain ⟨z0, z1, z2, z3, z4, z5, z6⟩ := froz7 hbx6
       have HR6 := Aside0.mk hR6
       have HB6 := Aside0.mk hb6
       have HBX6 := Aside0.mk hbx6
       clear hRC6 hR6 hbx6
       refine ⟨_, rfl, ?_⟩
       refine hK.out _ _ (hold10 hb6 hHeld) (fun hHeld => ?_)
       clear hK K
       refine norm_ (a' := ?_) ?_ ?_
       rotate_left
       ·show Act.put _ (some 68) _ = _
        simp only [Act.put, List.setIfInBounds_toArray, List.set_cons_zero, List.set_cons_succ, i64_w, i32_w]
        rfl
       refine last_ (i := 17) (N := none) #[true, true, true, true, true, true, true, true, true, true, true, true, true, true, true, true, true, true] rfl rfl (by kernel_rfl) (by decide) (fun K hK => ?_)
       refine skip_ (w1 := ?_) (by rfl) rfl ?_ ?_
       rotate_left
       ·go_simp
        rfl
       refine hK.out _ _ ?_
       clear hK K
       refine done_ (by kernel_rfl) ?_
       go_wp2_with fail
       have hE7 : EndAt W (set7 w6 bx (.slice E0 S2.stable.length g0) (.slice E1 S2.old.length g1) (.slice E2 S2.pend.length g2) (.slice E3 hl.length g3) (.bool S2.failed) (.int .i64 hu) (.slice E6 hs.length g6)) okk bx rb #[.slice E0 S2.stable.length g0, .slice E1 S2.old.length g1, .slice E2 S2.pend.length g2, .slice E3 hl.length g3, .bool S2.failed, .int .i64 hu, .slice E6 hs.length g6] u9 ((S.pend.take (j + 1)).filter fun a => !p a) S2 := by
        have hf : ∀ k, k ≠ bx → (set7 w6 bx (.slice E0 S2.stable.length g0) (.slice E1 S2.old.length g1) (.slice E2 S2.pend.length g2) (.slice E3 hl.length g3) (.bool S2.failed) (.int .i64 hu) (.slice E6 hs.length g6)).heap[k]? = w6.heap[k]? := fun k hk => set7_far w6 bx (.slice E0 S2.stable.length g0) (.slice E1 S2.old.length g1) (.slice E2 S2.pend.length g2) (.slice E3 hl.length g3) (.bool S2.failed) (.int .i64 hu) (.slice E6 hs.length g6) k hk
        have hbw : Below wr.heap.size wr w6 := HBD.out.trans (HB6.out.mono HBD.out.size)
        refine ⟨set7_below (HE.out.bel.trans (hbw.mono HE.out.bel.size)) LB.out.1 (.slice E0 S2.stable.length g0) (.slice E1 S2.old.length g1) (.slice E2 S2.pend.length g2) (.slice E3 hl.length g3) (.bool S2.failed) (.int .i64 hu) (.slice E6 hs.length g6), set7_blk HBX6.out (.slice E0 S2.stable.length g0) (.slice E1 S2.old.length g1) (.slice E2 S2.pend.length g2) (.slice E3 hl.length g3) (.bool S2.failed) (.int .i64 hu) (.slice E6 hs.length g6), (hf rb (fun e => LB.out.2.2.2.1 e.symm)).trans (blk_below HE.out.res hbw), ?_, ?_⟩
        ·have r1 := HR6.out.mono (ok' := fun k => okk k ∧ some k ≠ u9.ownBlock) (fun k hk hlt => hk.elim id (fun hk => by
          have h1 : wr.heap.size ≤ k := Nat.le_trans HBD.out.size hk
          exact ⟨HOKK.out k (by have := HWR.out; omega), fun e => by have := LOW.out k e.symm; omega⟩))
         exact r1.step (fun k hk _ => hf k (HOKO.out k hk.1).1)
        ·rw [HFL2.out]
         exact Kd.R_mono (Kd.R_step (Kd.R_types (Kd.R_below HE.out.row hbw) HBX6.out (by decide)) (fun k hk _ => hf k hk.2)) (fun k hk => hk.1)
       have HE7 := Aside0.mk hE7
       clear hE7 HE
       go_roundg (n2 - (j + 1))
       case measure => omega
       case rel => exact ⟨j + 1, i + 1, _, S2, _, rfl, by go_num, by go_num, by omega, Nat.le_refl _, by omega, HE7, HEF2, HFS2⟩
  ·have hjn : j = n2 := by omega
   have HJN := Aside0.mk hjn
   obtain ⟨A9, c9, hv9⟩ := Kd.R_slice HE.out.row
   subst hv9
   have fbr := HE.out.res
   have rb0 : wr.cell? ⟨rb, 0, none⟩ = some (.slice none 0 0) := by rw [blk_cell fbr]; rfl
   have rz0 : wr.frozen? ⟨rb, 0, none⟩ = false := blk_frozen fbr 0
   have rb1 : wr.cell? ⟨rb, 1, none⟩ = some (.slice none 0 0) := by rw [blk_cell fbr]; rfl
   have rz1 : wr.frozen? ⟨rb, 1, none⟩ = false := blk_frozen fbr 1
   have rb2 : wr.cell? ⟨rb, 2, none⟩ = some (.slice none 0 0) := by rw [blk_cell fbr]; rfl
   have rz2 : wr.frozen? ⟨rb, 2, none⟩ = false := blk_frozen fbr 2
   have rb3 : wr.cell? ⟨rb, 3, none⟩ = some (.slice none 0 0) := by rw [blk_cell fbr]; rfl
   have rz3 : wr.frozen? ⟨rb, 3, none⟩ = false := blk_frozen fbr 3
   have rb4 : wr.cell? ⟨rb, 4, none⟩ = some (.bool false) := by rw [blk_cell fbr]; rfl
   have rz4 : wr.frozen? ⟨rb, 4, none⟩ = false := blk_frozen fbr 4
   have rb5 : wr.cell? ⟨rb, 5, none⟩ = some (.int .i64 0) := by rw [blk_cell fbr]; rfl
   have rz5 : wr.frozen? ⟨rb, 5, none⟩ = false := blk_frozen fbr 5
   have rb6 : wr.cell? ⟨rb, 6, none⟩ = some (.slice none 0 0) := by rw [blk_cell fbr]; rfl
   have rz6 : wr.frozen? ⟨rb, 6, none⟩ = false := blk_frozen fbr 6
   have zb2 : wr.frozen? ⟨bx, 2, none⟩ = false := blk_frozen HE.out.box 2
   have nb1 : bx ≠ rb := LB.out.2.2.2.1
   have nb2 : rb ≠ bx := fun e => nb1 e.symm
   obtain ⟨n9, hn9⟩ : ∃ n9, n9 = ((S.pend.take j).filter fun a => !p a).length := ⟨_, rfl⟩
   have HN9 := Aside0.mk hn9
   rw [← hn9]
   clear hC2 fbr hn9 hjn hgg hij
   go_wp2_with fail
   have hB1 : (wr.setCell ⟨bx, 2, none⟩ (.slice A9 n9 c9)).heap[rb]? = some (.cells #[.slice none 0 0, .slice none 0 0, .slice none 0 0, .slice none 0 0, .bool false, .int .i64 0, .slice none 0 0] 31 (0, 0)) := (Below.heap_setCell _ _ _ _ nb2).trans HE.out.res
   refine bodyPost_ret (results_c rfl _ _ rb 31 #[.slice B0 n0 d0, .slice B1 n1 d1, .slice A9 n9 c9, .slice B3 n3 d3, .bool fa, .int .i64 fu, .slice B6 n6 d6] (0, 0) _ rfl (set7_blk hB1 (.slice B0 n0 d0) (.slice B1 n1 d1) (.slice A9 n9 c9) (.slice B3 n3 d3) (.bool fa) (.int .i64 fu) (.slice B6 n6 d6)) Try.underlying31 rfl (by kernel_rfl)) rfl ?_
   refine ⟨_, rfl, ?_, set7_below (HE.out.bel.setCell (p := ⟨bx, 2, none⟩) LB.out.1 _) LB.out.2.1 (.slice B0 n0 d0) (.slice B1 n1 d1) (.slice A9 n9 c9) (.slice B3 n3 d3) (.bool fa) (.int .i64 fu) (.slice B6 n6 d6)⟩
   show RefIs (set7 (wr.setCell ⟨bx, 2, none⟩ (.slice A9 n9 c9)) rb (.slice B0 n0 d0) (.slice B1 n1 d1) (.slice A9 n9 c9) (.slice B3 n3 d3) (.bool fa) (.int .i64 fu) (.slice B6 n6 d6)) _ _ _
   obtain ⟨w2, hw2⟩ : ∃ w2, w2 = set7 (wr.setCell ⟨bx, 2, none⟩ (.slice A9 n9 c9)) rb (.slice B0 n0 d0) (.slice B1 n1 d1) (.slice A9 n9 c9) (.slice B3 n3 d3) (.bool fa) (.int .i64 fu) (.slice B6 n6 d6) := ⟨_, rfl⟩
   rw [← hw2]
   have hfar : ∀ k, k ≠ bx → k ≠ rb → w2.heap[k]? = wr.heap[k]? := fun k h1 h2 => by rw [hw2]; exact (set7_far _ rb (.slice B0 n0 d0) (.slice B1 n1 d1) (.slice A9 n9 c9) (.slice B3 n3 d3) (.bool fa) (.int .i64 fu) (.slice B6 n6 d6) k h2).trans (Below.heap_setCell _ _ _ _ h1)
   obtain ⟨gl, fu', sw, e4, e5, hA⟩ := HE.out.ref.agg
   injection e4 with e4
   injection e5 with _ e5
   subst e5
   have hS : finishS p nums S = { S' with pend := S.pend.filter fun a => !p a } := by
    unfold finishS
    have h := HEF.out
    rw [List.take_of_length_le (by have := HJN.out; have := EQ2.out; omega)] at h
    rw [h]
   have hx9 : ((S.pend.take j).filter fun a => !p a) = S.pend.filter fun a => !p a := by rw [List.take_of_length_le (by have := HJN.out; have := EQ2.out; omega)]
   have mv : ∀ {α : Type} {d : Kd α} {e : Nat} {u : Value} {xs : List α}, Kd.V d e wr 0 (fun k => okk k ∧ some k ≠ (Value.slice A9 ((S.pend.take j).filter fun a => !p a).length c9).ownBlock) u xs → Kd.V d e w2 0 (fun k => ok k ∨ W.heap.size ≤ k) u xs := fun hu =>
    Kd.V_mono (Kd.V_step hu (fun k hk _ => hfar k (HOKO.out k hk.1).1 (HOKO.out k hk.1).2.1)) (fun k hk => (HOKO.out k hk.1).2.2)
   have hrow := Kd.R_V (base' := 0) (Kd.R_step (Kd.R_types (Kd.R_types HE.out.row HE.out.box (by decide)) HE.out.res (by decide)) (fun k hk _ => hfar k hk.1.2 hk.2))
   have hrow2 := Kd.V_mono hrow (ok' := fun k => ok k ∨ W.heap.size ≤ k) (fun k hk => Or.inr (by have h1 : W.heap.size + 1 + 1 ≤ k := hk.1.1; omega))
   rw [← HN9.out, hx9] at hrow2
   rw [hS]
   exact ⟨_, _, _, _, _, gl, fu, sw, { hv := by rw [e4], h0 := mv hA.h0, h1 := mv hA.h1, h2 := hrow2, h3 := mv hA.h3, h6 := mv hA.h6, fl5 := hA.fl5, fok := hA.fok, uok := hA.uok }⟩
end Go.Proofs.Ytflajmgichdhhaa.PG
namespace Go.Proofs.Ytflajmgichdhhaa.PG
open Go.RowKit Go.Proofs.YtflajmgichdhhaaW.PrintWords Go.Proofs.YtflajmgichdhhaaW.PrintLast Go.Proofs.YtflajmgichdhhaaW.PrintMore
set_option linter.unusedVariables false
set_option linter.unusedSimpArgs false
theorem results_tct {P : Program} {fn : Func} {p u v : Tmp} {ty : TypeId} (h : fn.results = #[.tmp u, .cell p ty, .tmp v]) (tmps : Array Value) (w : World) (g : Nat) (t : TypeId) (cs : Array Value) (fr : Nat × Nat) (d : TypeDesc)
  (hp : tmps.getD p undef = .pointer (some ⟨g, 0, none⟩)) (hg : w.heap[g]? = some (.cells cs t fr))
  (hu : P.underlying ty = some d) (hd : (match d with | .struct _ | .array _ _ => true | _ => false) = true) (hi : (P.info? ty).map (·.size) = some cs.size) :
  (results fn tmps).run P w = .ok (.tuple #[tmps.getD u undef, .agg cs, tmps.getD v undef]) w := by
 have hp' : tmps[p]?.getD undef = .pointer (some ⟨g, 0, none⟩) := by simpa using hp
 simp [results, h, hp', asAddr, run_loadVar_row w g t ty cs fr d hg hu hd hi]
def BeginPost (n : Nat) (W : World) (e : Ending) (W' : World) : Prop := ∃ L F v, e = .returned (.tuple #[.pointer (some ⟨L.g, 0, none⟩), v, .bool true]) ∧ DevIs W' W.heap.size L F (newS n) ∧ RefIs W' (fun k => ¬ F k) v (newS n) ∧ Below W.heap.size W W'
set_option maxHeartbeats 2000000 in
set_option maxRecDepth 100000 in
theorem begin_calls (W : World) (c : Int) (h0 : 0 ≤ c) (h1 : c < 256) (n : Nat) (hn : 1 + c % 6 = (n : Int)) :
  Calls Try.prog 12 #[.int .u8 c] W fun e W' => BeginPost n W e W' := by
 have hn1 : 1 ≤ n := by omega
 have hn2 : n ≤ 1155 := by omega
 have HN := Aside0.mk (fun W => new_calls W n hn1 hn2)
 have HR := Aside0.mk (fun W => rnew_calls W n hn1 hn2)
 go_enter Try.func12, Try.ntmps12
 go_wp2_with fail
 obtain ⟨rb, hrb⟩ : ∃ rb, rb = W.heap.size := ⟨_, rfl⟩
 obtain ⟨W1, hW1⟩ : ∃ W1, W1 = W.alloc (.cells #[.slice none 0 0, .slice none 0 0, .slice none 0 0, .slice none 0 0, .bool false, .int .i64 0, .slice none 0 0] 31) := ⟨_, rfl⟩
 have hx1 : W1.heap[rb]? = some (.cells #[.slice none 0 0, .slice none 0 0, .slice none 0 0, .slice none 0 0, .bool false, .int .i64 0, .slice none 0 0] 31 (0, 0)) := by rw [hW1, hrb]; exact blk_new _ _
 have hb1 : Below W.heap.size W W1 := by rw [hW1]; exact below_alloc (Below.refl _ _) _
 have hlr : W.heap.size ≤ rb := by omega
 have hle1 : W.heap.size ≤ W1.heap.size := hb1.size
 rw [← hW1, ← hrb]
 have HX1 := Aside0.mk hx1
 have HB1 := Aside0.mk hb1
 clear hW1 hrb hx1 hb1
 refine (HN.out W1).mono ?_
 rintro e W2 ⟨L, F, rfl, hI2, hb2⟩
 have HI2 := Aside0.mk hI2
 have HX2 := Aside0.mk (blk_below HX1.out hb2)
 have HB2 := Aside0.mk (HB1.out.trans (hb2.mono HB1.out.size))
 have HNR := Aside0.mk (show ¬ F rb from fun z => by have := (hI2.range _ z).1; have := blk_lt HX1.out; omega)
 have hrb2 : rb < W2.heap.size := blk_lt HX2.out
 clear hI2 hb2 HB1 HX1
 go_wp2_with fail
 refine (HR.out W2).mono ?_
 rintro e W3 ⟨v, rfl, hR3, hb3⟩
 obtain ⟨v0, v1, v2, v3, v6, fl, fu, sv, hA3⟩ := hR3
 obtain rfl := hA3.hv
 have HA3 := Aside0.mk hA3
 have HI3 := Aside0.mk (HI2.out.below hb3)
 have HX3 := Aside0.mk (blk_below HX2.out hb3)
 have HB3 := Aside0.mk (HB2.out.trans (hb3.mono HB2.out.size))
 have HFN := Aside0.mk (show ∀ k, W2.heap.size ≤ k → ¬ F k from fun k hk z => by have := (HI2.out.range _ z).2; omega)
 obtain ⟨A0, c0, e0, _⟩ := hA3.h0
 obtain ⟨A1, c1, e1, _⟩ := hA3.h1
 obtain ⟨A2, c2, e2, _⟩ := hA3.h2
 obtain ⟨A3, c3, e3, _⟩ := hA3.h3
 obtain ⟨A6, c6, e6, _⟩ := hA3.h6
 subst e0 e1 e2 e3 e6
 clear hA3 hb3 HI2 HX2 HB2
 obtain ⟨fa, hfa⟩ : ∃ fa, fa = (newS n).failed := ⟨_, rfl⟩
 rw [← hfa]
 have HFA := Aside0.mk hfa
 clear hfa
 go_wp2_with fail
 obtain ⟨bb, hbb⟩ : ∃ bb, bb = W3.heap.size := ⟨_, rfl⟩
 obtain ⟨W4, hW4⟩ : ∃ W4, W4 = W3.alloc (.cells #[.slice A0 (newS n).stable.length c0, .slice A1 (newS n).old.length c1, .slice A2 (newS n).pend.length c2, .slice A3 fl.length c3, .bool fa, .int .i64 fu, .slice A6 sv.length c6] 31) := ⟨_, rfl⟩
 have hb4 : Below W3.heap.size W3 W4 := by rw [hW4]; exact below_alloc (Below.refl _ _) _
 have hx4 : W4.heap[bb]? = some (.cells #[.slice A0 (newS n).stable.length c0, .slice A1 (newS n).old.length c1, .slice A2 (newS n).pend.length c2, .slice A3 fl.length c3, .bool fa, .int .i64 fu, .slice A6 sv.length c6] 31 (0, 0)) := by rw [hW4, hbb]; exact blk_new _ _
 rw [← hW4, ← hbb]
 have hr4 := blk_below HX3.out hb4
 obtain ⟨k0, k1, k2, k3, k4, k5, k6⟩ := cells7 hx4
 have r0 : W4.cell? ⟨rb, 0, none⟩ = some (.slice none 0 0) := by rw [blk_cell hr4]; rfl
 have f0 := blk_frozen hr4 0
 have r1 : W4.cell? ⟨rb, 1, none⟩ = some (.slice none 0 0) := by rw [blk_cell hr4]; rfl
 have f1 := blk_frozen hr4 1
 have r2 : W4.cell? ⟨rb, 2, none⟩ = some (.slice none 0 0) := by rw [blk_cell hr4]; rfl
 have f2 := blk_frozen hr4 2
 have r3 : W4.cell? ⟨rb, 3, none⟩ = some (.slice none 0 0) := by rw [blk_cell hr4]; rfl
 have f3 := blk_frozen hr4 3
 have r4 : W4.cell? ⟨rb, 4, none⟩ = some (.bool false) := by rw [blk_cell hr4]; rfl
 have f4 := blk_frozen hr4 4
 have r5 : W4.cell? ⟨rb, 5, none⟩ = some (.int .i64 0) := by rw [blk_cell hr4]; rfl
 have f5 := blk_frozen hr4 5
 have r6 : W4.cell? ⟨rb, 6, none⟩ = some (.slice none 0 0) := by rw [blk_cell hr4]; rfl
 have f6 := blk_frozen hr4 6
 have ne1 : bb ≠ rb := by have := blk_lt HX3.out; omega
 have ne2 : rb ≠ bb := fun e => ne1 e.symm
 have HB4 := Aside0.mk hb4
 have HR4 := Aside0.mk hr4
 clear hW4 hbb hb4 hx4 hr4
 go_region
 go_wp2_with fail
 have hbk := set7_blk HR4.out (.slice A0 (newS n).stable.length c0) (.slice A1 (newS n).old.length c1) (.slice A2 (newS n).pend.length c2) (.slice A3 fl.length c3) (.bool fa) (.int .i64 fu) (.slice A6 sv.length c6)
 have hfar := set7_far W4 rb (.slice A0 (newS n).stable.length c0) (.slice A1 (newS n).old.length c1) (.slice A2 (newS n).pend.length c2) (.slice A3 fl.length c3) (.bool fa) (.int .i64 fu) (.slice A6 sv.length c6)
 have hsz := set7_size W4 rb (.slice A0 (newS n).stable.length c0) (.slice A1 (newS n).old.length c1) (.slice A2 (newS n).pend.length c2) (.slice A3 fl.length c3) (.bool fa) (.int .i64 fu) (.slice A6 sv.length c6)
 obtain ⟨W5, hW5⟩ : ∃ W5, W5 = set7 W4 rb (.slice A0 (newS n).stable.length c0) (.slice A1 (newS n).old.length c1) (.slice A2 (newS n).pend.length c2) (.slice A3 fl.length c3) (.bool fa) (.int .i64 fu) (.slice A6 sv.length c6) := ⟨_, rfl⟩
 have hbl := set7_below (HB3.out.trans (HB4.out.mono HB3.out.size)) hlr (.slice A0 (newS n).stable.length c0) (.slice A1 (newS n).old.length c1) (.slice A2 (newS n).pend.length c2) (.slice A3 fl.length c3) (.bool fa) (.int .i64 fu) (.slice A6 sv.length c6)
 rw [← hW5] at hbk hfar hbl hsz
 rw [show (((((((W4.setCell ⟨rb, 0, none⟩ (.slice A0 (newS n).stable.length c0)).setCell ⟨rb, 1, none⟩ (.slice A1 (newS n).old.length c1)).setCell ⟨rb, 2, none⟩ (.slice A2 (newS n).pend.length c2)).setCell ⟨rb, 3, none⟩ (.slice A3 fl.length c3)).setCell ⟨rb, 4, none⟩ (.bool fa)).setCell ⟨rb, 5, none⟩ (.int .i64 fu)).setCell ⟨rb, 6, none⟩ (.slice A6 sv.length c6)) = W5 from hW5.symm]
 have hbk' : W5.drew.heap[rb]? = some (.cells #[.slice A0 (newS n).stable.length c0, .slice A1 (newS n).old.length c1, .slice A2 (newS n).pend.length c2, .slice A3 fl.length c3, .bool fa, .int .i64 fu, .slice A6 sv.length c6] 31 (0, 0)) := hbk
 refine bodyPost_ret (results_tct rfl _ _ rb 31 #[.slice A0 (newS n).stable.length c0, .slice A1 (newS n).old.length c1, .slice A2 (newS n).pend.length c2, .slice A3 fl.length c3, .bool fa, .int .i64 fu, .slice A6 sv.length c6] (0, 0) _ rfl hbk' Try.underlying31 rfl (by kernel_rfl)) rfl ?_
 have hI5 : DevIs W5.drew W.heap.size L F (newS n) := ((HI3.out.below HB4.out).lower hle1).move (fun k hk => hfar k (fun e => HNR.out (e ▸ hk))) (by show W4.heap.size ≤ W5.heap.size; omega)
 have hR5 : RefIs W5.drew (fun k => ¬ F k) (.agg #[.slice A0 (newS n).stable.length c0, .slice A1 (newS n).old.length c1, .slice A2 (newS n).pend.length c2, .slice A3 fl.length c3, .bool fa, .int .i64 fu, .slice A6 sv.length c6]) (newS n) := by
  have h0 : RefIs W3 (fun k => W2.heap.size ≤ k) (.agg #[.slice A0 (newS n).stable.length c0, .slice A1 (newS n).old.length c1, .slice A2 (newS n).pend.length c2, .slice A3 fl.length c3, .bool fa, .int .i64 fu, .slice A6 sv.length c6]) (newS n) := ⟨_, _, _, _, _, fl, fu, sv, { HA3.out with hv := by rw [HFA.out] }⟩
  refine ((h0.below HB4.out).step (W1 := W5.drew) (fun k hk _ => hfar k (fun e => by omega))).mono (fun k hk _ => HFN.out k hk)
 exact ⟨L, F, _, rfl, hI5, hR5, hbl.drew⟩
end Go.Proofs.Ytflajmgichdhhaa.PG
namespace Go.Proofs.Ytflajmgichdhhaa.PG
open Go.RowKit Go.Proofs.YtflajmgichdhhaaW.PrintWords Go.Proofs.YtflajmgichdhhaaW.PrintLast Go.Proofs.YtflajmgichdhhaaW.PrintMore
set_option linter.unusedVariables false
set_option linter.unusedSimpArgs false
def Inv (W0 : World) (L : Lay) (K : List (Nat × Obj)) (S : DevS) (W1 : World) : Prop := ∃ F, DevIs W1 W0.heap.size L F S ∧ (∀ p ∈ K, W1.heap[p.1]? = some p.2 ∧ ¬ F p.1) ∧ Below W0.heap.size W0 W1
section
variable {W0 W1 W2 : World} {L : Lay} {K : List (Nat × Obj)} {S S' : DevS} {k : Nat}
theorem Inv.bel (h : Inv W0 L K S W1) : Below W0.heap.size W0 W1 := by obtain ⟨F, _, _, h⟩ := h; exact h
theorem Inv.below (h : Inv W0 L K S W1) (hb : Below W1.heap.size W1 W2) : Inv W0 L K S W2 := by
 obtain ⟨F, h1, h2, h3⟩ := h
 exact ⟨F, h1.below hb, fun p hp => ⟨blk_below (h2 p hp).1 hb, (h2 p hp).2⟩, h3.trans (hb.mono h3.size)⟩
theorem Inv.blk (h : Inv W0 L K S W1) {b : Nat} {o : Obj} (hp : (b, o) ∈ K) : W1.heap[b]? = some o := by
 obtain ⟨F, _, h2, _⟩ := h
 exact (h2 _ hp).1
theorem Inv.add (h : Inv W0 L K S W1) (o : Obj) : Inv W0 L ((W1.heap.size, o) :: K) S (W1.alloc o) := by
 obtain ⟨F, h1, h2, h3⟩ := h
 have hb := below_alloc (Below.refl W1.heap.size W1) o
 refine ⟨F, h1.below hb, fun p hp => ?_, h3.trans (hb.mono h3.size)⟩
 rcases List.mem_cons.1 hp with hp | hp
 ·rw [hp]
  exact ⟨blk_new _ _, fun z => by have := (h1.range _ z).2; simp at this⟩
 ·exact ⟨blk_below (h2 p hp).1 hb, (h2 p hp).2⟩
theorem Inv.start {L : Lay} {F : Nat → Prop} (h : DevIs W1 W0.heap.size L F S) (hb : Below W0.heap.size W0 W1) : Inv W0 L [] S W1 := ⟨F, h, (fun p hp => by cases hp), hb⟩
theorem Inv.post {P : Program} {f : FuncId} {args : Array Value} {E : Ending} (h : Inv W0 L K S W1) (hc : ∀ F, DevIs W1 W0.heap.size L F S → Calls P f args W1 fun e W' => e = E ∧ DevPost W0.heap.size L F S' W1 W') :
  Calls P f args W1 fun e W' => e = E ∧ Inv W0 L K S' W' := by
 obtain ⟨F, h1, h2, h3⟩ := h
 refine (hc F h1).mono ?_
 rintro e W' ⟨he, hpo⟩
 obtain ⟨F', g1, g2, g3, _⟩ := hpo.keep
 exact ⟨he, F', g1, fun p hp => g2 _ _ (h2 p hp).1 (h2 p hp).2, h3.trans g3⟩
theorem Inv.write (h : Inv W0 L K S W1) (hf : Fine k S) (hk : k ≤ 1000000) (hsl : S.surv.length ≤ 4611686018427387904) (sys ep sec : Int) (d : ByteArray) {r : Int} (hr : writeS S sys ep sec d = (r, S')) :
  Calls Try.prog 20 #[.pointer (some ⟨L.g, 0, none⟩), .agg #[.int .i64 sys, .int .i64 ep], .int .i64 sec, .string d] W1 fun e W' => e = .returned (.int .i64 r) ∧ Inv W0 L K S' W' :=
 h.post (fun F hI => by have := write_calls hI hf hk hsl sys ep sec d; rw [hr] at this; exact this)
theorem Inv.sync (h : Inv W0 L K S W1) (hf : Fine k S) (hk : k ≤ 1000000) (hsl : S.surv.length ≤ 4611686018427387904) (sys ep : Int) {r : Int} (hr : syncS S sys ep = (r, S')) :
  Calls Try.prog 21 #[.pointer (some ⟨L.g, 0, none⟩), .agg #[.int .i64 sys, .int .i64 ep]] W1 fun e W' => e = .returned (.int .i64 r) ∧ Inv W0 L K S' W' :=
 h.post (fun F hI => by have := sync_calls hI hf hk hsl sys ep; rw [hr] at this; exact this)
theorem Inv.fence (h : Inv W0 L K S W1) (sys ep : Int) :
  Calls Try.prog 27 #[.pointer (some ⟨L.g, 0, none⟩), .int .i64 sys, .int .i64 ep] W1 fun e W' => e = .returned (.tuple #[]) ∧ Inv W0 L K (fenceS S sys ep) W' :=
 h.post (fun F hI => fence_calls hI sys ep)
theorem Inv.ret (h : Inv W0 L K S W1) (hf : Fine k S) (sec back : Int) {r : Int} (hr : returnS S sec back = (r, S')) :
  Calls Try.prog 26 #[.pointer (some ⟨L.g, 0, none⟩), .int .i64 sec, .int .i64 back] W1 fun e W' => e = .returned (.int .i64 r) ∧ Inv W0 L K S' W' :=
 h.post (fun F hI => by have := return_calls hI hf sec back; rw [hr] at this; exact this)
theorem Inv.pend (h : Inv W0 L K S W1) (hpl : S.pend.length ≤ 1000000) (i : Int) {n : Nat} (hn : pendN S i = n) :
  Calls Try.prog 24 #[.pointer (some ⟨L.g, 0, none⟩), .int .i64 i] W1 fun e W' => e = .returned (.int .i64 (n : Int)) ∧ Inv W0 L K S W' := by
 have h' := h
 obtain ⟨F, h1, _⟩ := h
 have := pendI h1 hpl i
 rw [hn] at this
 refine this.mono ?_
 rintro e W' ⟨he, hb⟩
 exact ⟨he, h'.below hb⟩
end
end Go.Proofs.Ytflajmgichdhhaa.PG
namespace Go.Proofs.Ytflajmgichdhhaa.PG
open Go.RowKit Go.Proofs.YtflajmgichdhhaaW.PrintWords Go.Proofs.YtflajmgichdhhaaW.PrintLast Go.Proofs.YtflajmgichdhhaaW.PrintMore
set_option linter.unusedVariables false
set_option linter.unusedSimpArgs false
attribute [local go_sem] max2_int min2_int max_two min_two
theorem nil29 (w : World) (n c : Nat) : (binOp .eql 29 (.slice none n c) (.slice none 0 0)).run Try.prog w = .ok (.bool true) w := by kernel_rfl
theorem some29 (w : World) (ad : Addr) (n c : Nat) : (binOp .eql 29 (.slice (some ad) n c) (.slice none 0 0)).run Try.prog w = .ok (.bool false) w := by kernel_rfl
set_option maxRecDepth 100000 in
theorem clone46 (W : World) (A : Option Addr) (c : Nat) (l : List Int) (hC : Kd.C (Kd.int .i64) W A l.length l) (hl : l.length ≤ 1000000) :
  Calls Try.prog 46 #[.slice A l.length c] W fun e W' => ∃ v, e = .returned v ∧ Kd.R (Kd.int .i64) 3 W' W.heap.size (fun k => W.heap.size ≤ k) v l ∧ Below W.heap.size W W' := by
 cases A with
 | none =>
  have h0 : l = [] := by
   rcases Nat.eq_zero_or_pos l.length with h | h
   ·exact List.eq_nil_of_length_eq_zero h
   ·obtain ⟨ad, e, _⟩ := hC.2.2 h
    cases e
  subst h0
  have hn := nil29
  clear hC
  go_enter Try.func46, Try.ntmps46
  go_wp2_with fail
  go_ret
  exact ⟨_, rfl, Kd.R_nil _ _ _ _ _, Below.refl _ _⟩
 | some ad =>
  have hs := some29
  have HC := Aside0.mk hC
  clear hC
  go_enter Try.func46, Try.ntmps46
  go_wp2_with (at_builtin; with_reducible refine stopHere ?_)
  refine ⟨?_⟩
  have hO : Kd.R (Kd.int .i64) 3 (W.alloc (.cells #[] 3)) W.heap.size (fun k => W.heap.size ≤ k) (.slice (some ⟨W.heap.size, 0, none⟩) 0 0) [] := by
   refine ⟨fun k hk => ?_, [], ⟨rfl, Or.inr ⟨W.heap.size, 0, #[], rfl, Nat.le_refl _, blk_new _ _, Nat.le_refl _, Nat.zero_le _, rfl, rfl⟩⟩, Reps.none _ _⟩
   simp [Value.ownBlock] at hk
   omega
  refine Kd.R_append_rows (Kd.int .i64) (w0 := W) W.heap.size rfl (.tmp 5) (.tmp 6) 29 3 (.int .i64 0) 8 rfl Try.underlying29 info3 rfl (by decide) (by omega) _ [] l (some ad) l.length c (fun k => W.heap.size ≤ k) (fun _ => False) rfl rfl hO (Kd.C_alloc HC.out _) (fun _ _ h => h) (fun _ h => h.elim) (fun k hk => by simp at hk; omega) (below_alloc (Below.refl _ _) _) (by simp) (by simp; omega) ?_
  intro v1 w1 hR hb hg hat
  have HR := Aside0.mk hR
  have HB := Aside0.mk hb
  clear hR hb hg hat hO
  go_wp2_with fail
  go_ret
  exact ⟨v1, rfl, HR.out, HB.out⟩
theorem DevAt.more {W : World} {B : Nat} {L : Lay} {vs : List Value} {pv uv : Value} {m : Ents} {F F' : Nat → Prop} {S : DevS} (h : DevAt W B L vs pv uv m F S) (h1 : ∀ k, F k → F' k) (h2 : ∀ k, F' k → B ≤ k ∧ k < W.heap.size) : DevAt W B L vs pv uv m F' S :=
  { h with
    hv := fun i v x a b => Kd.V_mono (h.hv i v x a b) (fun k hk => ⟨h1 k hk.1, hk.2⟩)
    hp := Kd.R_mono h.hp h1
    hu := Kd.V_mono h.hu (fun k hk => ⟨h1 k hk.1, hk.2⟩)
    hF := ⟨h1 _ h.hF.1, h1 _ h.hF.2.1, h1 _ h.hF.2.2.1, h1 _ h.hF.2.2.2⟩
    hr := h2 }
theorem DevAt.arm {W0 W : World} {B : Nat} {L : Lay} {vs : List Value} {pv uv v : Value} {m : Ents} {F : Nat → Prop} {S : DevS} (h0 : DevAt W0 B L vs pv uv m F S) (hb : Below W0.heap.size W0 W) (x : Int) (l : List Int) (hR : Kd.R (Kd.int .i64) 3 W W0.heap.size (fun k => W0.heap.size ≤ k) v l) :
  DevPost B L F { S with fset := true, left := x, surv := l } W0 (((W.setCell ⟨L.g, 4, none⟩ (.bool true)).setCell ⟨L.g, 5, none⟩ (.int .i64 x)).setCell ⟨L.g, 6, none⟩ v) := by
 have h := h0.below hb
 have hs := hb.size
 have hB : B ≤ W0.heap.size := by have := h0.hr _ h0.hF.1; omega
 have hfar : ∀ k, k ≠ L.g → (((W.setCell ⟨L.g, 4, none⟩ (.bool true)).setCell ⟨L.g, 5, none⟩ (.int .i64 x)).setCell ⟨L.g, 6, none⟩ v).heap[k]? = W.heap[k]? := fun k hk =>
  (Below.heap_setCell _ _ _ _ hk).trans ((Below.heap_setCell _ _ _ _ hk).trans (Below.heap_setCell _ _ _ _ hk))
 have hm : DevAt W B L vs pv uv m (fun k => F k ∨ (W0.heap.size ≤ k ∧ k < W.heap.size)) S := h.more (fun k z => Or.inl z) (fun k z => z.elim (fun y => h.hr k y) (fun y => ⟨by omega, y.2⟩))
 refine ⟨fun k => F k ∨ (W0.heap.size ≤ k ∧ k < W.heap.size), ⟨vs, pv, v, m, hm.setG v _ rfl rfl rfl rfl (blk_put (blk_put (blk_put h.hg 4 _ rfl) 5 _ rfl) 6 _ (by rfl)) (fun k hk _ => hfar k hk) (by simp [World.setCell]) ?_⟩, fun k z => z.imp id (fun y => y.1), ?_, ?_⟩
 ·have hv := Kd.R_V (base' := 0) (Kd.R_mono (Kd.R_step (Kd.R_types hR h.hg (by decide)) (fun k hk _ => hfar k hk.2)) (fun k hk => hk.1))
  refine Kd.V_mono (Kd.V_bound hv) (fun k hk => ⟨Or.inr ⟨hk.1, by have := hk.2; simpa [World.setCell] using this⟩, fun z => ?_⟩)
  have := (h0.hr k (h0.own k z)).2
  have := hk.1
  omega
 ·exact (((Kept.of_below hb F).setCell (p := ⟨L.g, 4, none⟩) (Or.inl h.hF.1) _).setCell (p := ⟨L.g, 5, none⟩) (Or.inl h.hF.1) _).setCell (p := ⟨L.g, 6, none⟩) (Or.inl h.hF.1) _
 ·exact (((hb.mono hB).setCell (p := ⟨L.g, 4, none⟩) (h.hr _ h.hF.1).1 _).setCell (p := ⟨L.g, 5, none⟩) (h.hr _ h.hF.1).1 _).setCell (p := ⟨L.g, 6, none⟩) (h.hr _ h.hF.1).1 _
def failS (S : DevS) (n : Int) (l : List Int) : DevS := if S.failed = true then S else { S with fset := true, left := max 0 n, surv := l }
set_option maxHeartbeats 1000000 in
set_option maxRecDepth 100000 in
theorem failafter_calls {W : World} {B : Nat} {L : Lay} {F : Nat → Prop} {S : DevS} (hI : DevIs W B L F S) (n : Int) (A : Option Addr) (c : Nat) (l : List Int) (hC : Kd.C (Kd.int .i64) W A l.length l) (hl : l.length ≤ 1000000) :
  Calls Try.prog 36 #[.pointer (some ⟨L.g, 0, none⟩), .int .i64 n, .slice A l.length c] W fun e W' => e = .returned (.tuple #[]) ∧ DevPost B L F (failS S n l) W W' := by
 have HI := Aside0.mk hI
 have hB := hI.hB
 obtain ⟨vs, pv, uv, m, hP⟩ := hI
 have c7 := hP.c7
 unfold failS
 cases hfa : S.failed with
 | true =>
  rw [if_pos rfl]
  rw [hfa] at c7
  clear hP hfa hC
  go_enter Try.func36, Try.ntmps36
  go_wp2_with fail
  refine bodyPost_ret (results_none rfl _ _ _) rfl ?_
  exact ⟨rfl, DevPost.same HI.out (Below.refl _ _)⟩
 | false =>
  rw [if_neg (by simp)]
  rw [hfa] at c7
  have HP := Aside0.mk hP
  have HCL := Aside0.mk (clone46 W A c l hC hl)
  have HFA := Aside0.mk hfa
  clear hP hfa hC
  by_cases hn : 0 < n
  ·have hmx : max 0 n = n := by omega
   rw [hmx]
   go_enter Try.func36, Try.ntmps36
   go_wp2_with fail
   refine HCL.out.mono ?_
   rintro e W2 ⟨v, rfl, hR, hb⟩
   obtain ⟨A2, c2, hv, _, _⟩ := Kd.R_reads hR
   have hP2 := HP.out.below hb
   have k4 := hP2.c4
   have k5 := hP2.c5
   have k6 := hP2.c6
   have f4 := hP2.fg 4
   have f5 := hP2.fg 5
   have f6 := hP2.fg 6
   subst hv
   have HR := Aside0.mk hR
   have HB := Aside0.mk hb
   have HP2 := Aside0.mk hP2
   clear hR hb hP2 HCL
   go_wp2_with fail
   go_end0
   have h := HP.out.arm HB.out n l HR.out
   rw [HFA.out] at h
   exact ⟨rfl, h⟩
  ·have hmx : max 0 n = 0 := by omega
   rw [hmx]
   go_enter Try.func36, Try.ntmps36
   go_wp2_with fail
   refine HCL.out.mono ?_
   rintro e W2 ⟨v, rfl, hR, hb⟩
   obtain ⟨A2, c2, hv, _, _⟩ := Kd.R_reads hR
   have hP2 := HP.out.below hb
   have k4 := hP2.c4
   have k5 := hP2.c5
   have k6 := hP2.c6
   have f4 := hP2.fg 4
   have f5 := hP2.fg 5
   have f6 := hP2.fg 6
   subst hv
   have HR := Aside0.mk hR
   have HB := Aside0.mk hb
   have HP2 := Aside0.mk hP2
   clear hR hb hP2 HCL
   go_wp2_with fail
   go_end0
   have h := HP.out.arm HB.out 0 l HR.out
   rw [HFA.out] at h
   exact ⟨rfl, h⟩
set_option maxRecDepth 100000 in
theorem repair_calls {W : World} {B : Nat} {L : Lay} {F : Nat → Prop} {S : DevS} (hI : DevIs W B L F S) :
  Calls Try.prog 37 #[.pointer (some ⟨L.g, 0, none⟩)] W fun e W' => e = .returned (.tuple #[]) ∧ DevPost B L F { S with failed := false, fset := false, left := 0, surv := [] } W W' := by
 obtain ⟨vs, pv, uv, m, hP⟩ := hI
 have k4 := hP.c4
 have k5 := hP.c5
 have k6 := hP.c6
 have k7 := hP.c7
 have f4 := hP.fg 4
 have f5 := hP.fg 5
 have f6 := hP.fg 6
 have f7 := hP.fg 7
 have HP := Aside0.mk hP
 obtain ⟨A, c, hu, _⟩ := hP.hu
 subst hu
 clear hP
 go_enter Try.func37, Try.ntmps37
 go_wp2_with fail
 go_end0
 have hbl := HP.out.blow false
 exact ⟨rfl, F, ⟨vs, pv, _, m, hbl⟩, fun k z => Or.inl z, ((((Kept.refl W F).setCell (p := ⟨L.g, 7, none⟩) (Or.inl HP.out.hF.1) _).setCell (p := ⟨L.g, 4, none⟩) (Or.inl HP.out.hF.1) _).setCell (p := ⟨L.g, 5, none⟩) (Or.inl HP.out.hF.1) _).setCell (p := ⟨L.g, 6, none⟩) (Or.inl HP.out.hF.1) _,
  ((((Below.refl B W).setCell (p := ⟨L.g, 7, none⟩) (HP.out.hr _ HP.out.hF.1).1 _).setCell (p := ⟨L.g, 4, none⟩) (HP.out.hr _ HP.out.hF.1).1 _).setCell (p := ⟨L.g, 5, none⟩) (HP.out.hr _ HP.out.hF.1).1 _).setCell (p := ⟨L.g, 6, none⟩) (HP.out.hr _ HP.out.hF.1).1 _⟩
def damB (s : ByteArray) (at_ : Nat) (mask : Int) : ByteArray := strOfNums ((bytesOf s).set at_ (bits BinOp.xor IntKind.u8 (((s.data.toList.getD at_ 0).toNat : Nat) : Int) mask))
theorem damB_size (s : ByteArray) (at_ : Nat) (mask : Int) : (damB s at_ mask).size = s.size := by
 unfold damB strOfNums
 show (List.map _ _).toArray.size = _
 rw [List.size_toArray, List.length_map, List.length_set, bytesOf_length]
theorem reads_put {w : World} {k : IntKind} {nb n : Nat} {xs : List Int} (h : ReadsInt w k (some ⟨nb, 0, none⟩) n xs) (a : Nat) (ha : a < n) (v : Int) : ReadsInt (w.setCell ⟨nb, a, none⟩ (.int k v)) k (some ⟨nb, 0, none⟩) n (xs.set a v) := by
 obtain ⟨h1, h2, h3⟩ := h
 refine ⟨by rw [List.length_set]; exact h1, h2, fun hn => ?_⟩
 obtain ⟨ad, e, hc⟩ := h3 hn
 refine ⟨ad, e, fun j hj => ?_⟩
 cases e
 have hcj := hc j hj
 rw [add_plain] at hcj ⊢
 by_cases e : a = j
 ·subst e
  rw [World.cell?_setCell_same _ _ _ hcj, List.getD_eq_getElem?_getD, List.getElem?_set, if_pos rfl, if_pos (by omega)]
  rfl
 ·rw [World.cell?_setCell_other _ _ _ _ (by intro h; injection h with _ h2 _; omega), hcj, List.getD_eq_getElem?_getD, List.getD_eq_getElem?_getD, List.getElem?_set, if_neg e]
def damageS (S : DevS) (sec at_ mask : Int) : Int × DevS :=
  if (0 ≤ sec ∧ sec < (S.stable.length : Int)) ∧ 0 ≤ at_ ∧ at_ < 140 then (if mask = 0 then (1, S) else (0, { S with stable := S.stable.set sec.toNat (damB (S.stable.getD sec.toNat ⟨#[]⟩) at_.toNat mask) })) else (2, S)
set_option maxHeartbeats 1000000 in
set_option maxRecDepth 100000 in
theorem damage_calls {W : World} {B : Nat} {L : Lay} {F : Nat → Prop} {S : DevS} {k : Nat} (hI : DevIs W B L F S) (hf : Fine k S) (sec at_ mask : Int) (hm0 : 0 ≤ mask) (hm1 : mask < 256) :
  Calls Try.prog 38 #[.pointer (some ⟨L.g, 0, none⟩), .int .i64 sec, .int .i64 at_, .int .u8 mask] W fun e W' => e = .returned (.int .i64 (damageS S sec at_ mask).1) ∧ DevPost B L F (damageS S sec at_ mask).2 W W' := by
 have HI := Aside0.mk hI
 have hB := hI.hB
 obtain ⟨vs, pv, uv, m, hP⟩ := hI
 unfold damageS
 by_cases h1 : 0 ≤ sec ∧ sec < (S.stable.length : Int)
 ·have HT := Aside0.mk (there_yes hP sec h1.1 h1.2)
  by_cases h2 : 0 ≤ at_
  ·have hd2 : decide (at_ < 0) = false := decide_eq_false (by omega)
   by_cases h3 : at_ < 140
   ·have hd3 : decide (140 ≤ at_) = false := decide_eq_false (by omega)
    rw [if_pos ⟨h1, h2, h3⟩]
    by_cases h4 : mask = 0
    ·rw [if_pos h4]
     have hd4 : (mask == 0) = true := by rw [h4]; rfl
     clear h4 hP hf h1
     go_enter Try.func38, Try.ntmps38
     go_wp2_with fail
     refine HT.out.mono ?_
     rintro e W2 ⟨rfl, rfl⟩
     go_wp2_with fail
     go_ret
     exact ⟨rfl, DevPost.same HI.out (Below.refl _ _)⟩
    ·rw [if_neg h4]
     have hd4 : (mask == 0) = false := beq_eq_false_iff_ne.2 h4
     obtain ⟨n, hn⟩ := Int.eq_ofNat_of_zero_le h1.1
     obtain ⟨a, ha⟩ := Int.eq_ofNat_of_zero_le h2
     subst hn
     subst ha
     have hns : n < S.stable.length := by omega
     rw [Int.toNat_natCast, Int.toNat_natCast]
     have hst : S.stable.getD n ⟨#[]⟩ = S.stable[n] := by rw [List.getD_eq_getElem?_getD, List.getElem?_eq_getElem hns]; rfl
     rw [hst]
     have c0 := hP.c0
     have cs := hP.cs n hns
     have hsz : S.stable[n].size = 140 := hf.size _ (List.getElem_mem _)
     have fs : W.frozen? ⟨L.sb, n, none⟩ = false := blk_frozen hP.hs n
     have hnz : (n : Int) < (S.stable.length : Int) := h1.2
     have ls : L.sb < W.heap.size := blk_lt hP.hs
     have lg := hP.lg
     obtain ⟨x, hx⟩ : ∃ x, x = S.stable[n] := ⟨_, rfl⟩
     rw [← hx] at cs hsz ⊢
     have HP := Aside0.mk hP
     have HSZ := Aside0.mk hsz
     have hxl : (x.size : Int) ≤ 140 := by omega
     have hcv := print_bytes (P := Try.prog) 9 87 5 Try.underlying9 Try.underlying87 Try.underlying5 x W
     have hax : a < x.size := by omega
     have haz : (a : Int) < (x.size : Int) := by omega
     obtain ⟨W5, hW5⟩ : ∃ W5, W5 = Lib.bytesWorld W 5 x := ⟨_, rfl⟩
     have hb5 : Below W.heap.size W W5 := by rw [hW5]; exact bytes_below (Below.refl _ _) (Nat.le_refl _) 5 x
     have hx5 := Lib.bytesWorld_at_new W 5 x
     have q5' := Lib.bytesWorld_cell W 5 x a hax
     have hr5 := bytes_reads W 5 x (by omega)
     have hl5 := Lib.bytesWorld_size W 5 x
     rw [← hW5] at hx5 q5' hr5 hcv hl5
     obtain ⟨b, hb⟩ : ∃ b, b = (x.data.toList.getD a 0) := ⟨_, rfl⟩
     have q5 : W5.cell? ⟨W.heap.size, a, none⟩ = some (.int .u8 (b.toNat : Int)) := by rw [hb]; exact q5'
     have g5 : W5.frozen? ⟨W.heap.size, a, none⟩ = false := by
      unfold World.frozen?
      rw [hx5]
      show (decide (_ ≤ a) && _) = false
      have : ¬ (Lib.bytesCells W 5 x).size ≤ a := by unfold Lib.bytesCells; simp; have : x.data.size = x.size := rfl; omega
      rw [decide_eq_false this]; rfl
     have n5 : W.heap.size < W5.heap.size := by omega
     have c05 := (hb5.cell (p := ⟨L.g, 0, none⟩) lg).trans c0
     have cs5 := (hb5.cell (p := ⟨L.sb, n, none⟩) ls).trans cs
     have fs5 := (hb5.frozen (p := ⟨L.sb, n, none⟩) ls).trans fs
     have ne1 : W.heap.size ≠ L.sb := by omega
     have ne2 : W.heap.size ≠ L.g := by omega
     have hb0 : (0 : Int) ≤ (b.toNat : Int) := by omega
     have hb1 : (b.toNat : Int) < 256 := by have := b.toNat_lt; omega
     have hcv2 : (convert 87 9 (.slice (some ⟨W.heap.size, 0, none⟩) x.size (grownCap W x.size 0 5))).run Try.prog (W5.setCell ⟨W.heap.size, a, none⟩ (.int .u8 (bits BinOp.xor IntKind.u8 (b.toNat : Int) mask))).drew = .ok (.string (damB x a mask)) (W5.setCell ⟨W.heap.size, a, none⟩ (.int .u8 (bits BinOp.xor IntKind.u8 (b.toNat : Int) mask))).drew := by
      have h := string_of_reads (P := Try.prog) (src := 87) (dst := 9) (c := grownCap W x.size 0 5) Try.underlying87 Try.underlying5 Try.underlying9 (show ReadsInt (W5.setCell ⟨W.heap.size, a, none⟩ (.int .u8 (bits BinOp.xor IntKind.u8 (b.toNat : Int) mask))).drew .u8 (some ⟨W.heap.size, 0, none⟩) x.size _ from reads_put hr5 a hax _)
      unfold damB
      rw [← hb]
      exact h
     have HB5 := Aside0.mk hb5
     clear h4 hP hf h1 hst hx hns hsz hx5 hW5 hl5 hb hr5 hb5 q5'
     go_enter Try.func38, Try.ntmps38
     go_wp2_with fail
     refine HT.out.mono ?_
     rintro e W2 ⟨rfl, rfl⟩
     go_wp2_with fail
     go_region
     go_wp2_with fail
     go_ret
     have hb6 := HB5.out.setCell (p := ⟨W.heap.size, a, none⟩) (Nat.le_refl _) (.int .u8 (bits BinOp.xor IntKind.u8 (b.toNat : Int) mask))
     have h6 := (HP.out.below hb6).setStablePost n (damB x a mask)
     exact ⟨rfl, (h6.after hb6 hB).drewN 1⟩
   ·have hd3 : decide (140 ≤ at_) = true := decide_eq_true (by omega)
    rw [if_neg (fun z => h3 z.2.2)]
    clear hP hf h1
    go_enter Try.func38, Try.ntmps38
    go_wp2_with fail
    refine HT.out.mono ?_
    rintro e W2 ⟨rfl, rfl⟩
    go_wp2_with fail
    go_ret
    exact ⟨rfl, DevPost.same HI.out (Below.refl _ _)⟩
  ·have hd2 : decide (at_ < 0) = true := decide_eq_true (by omega)
   rw [if_neg (fun z => h2 z.2.1)]
   clear hP hf h1
   go_enter Try.func38, Try.ntmps38
   go_wp2_with fail
   refine HT.out.mono ?_
   rintro e W2 ⟨rfl, rfl⟩
   go_wp2_with fail
   go_ret
   exact ⟨rfl, DevPost.same HI.out (Below.refl _ _)⟩
 ·have HT := Aside0.mk (there_no hP sec h1)
  rw [if_neg (fun z => h1 z.1)]
  clear hP hf h1
  go_enter Try.func38, Try.ntmps38
  go_wp2_with fail
  refine HT.out.mono ?_
  rintro e W2 ⟨rfl, rfl⟩
  go_wp2_with fail
  go_ret
  exact ⟨rfl, DevPost.same HI.out (Below.refl _ _)⟩
end Go.Proofs.Ytflajmgichdhhaa.PG
namespace Go.Proofs.Ytflajmgichdhhaa.Opens
open Go.RowKit Go.WideShapes Go.ChangeShapes Go.Deep Go.Proofs.YtflajmgichdhhaaW.PrintWords Go.Proofs.Ytflajmgichdhhaa.PG
set_option linter.unusedVariables false
theorem cells37 : Try.prog.cellsOf 37 = 8 := by kernel_rfl
theorem cells35 : Try.prog.cellsOf 35 = 2 := by kernel_rfl
theorem cells29 : Try.prog.cellsOf 29 = 1 := by kernel_rfl
theorem cells3 : Try.prog.cellsOf 3 = 1 := by kernel_rfl
theorem cells5 : Try.prog.cellsOf 5 = 1 := by kernel_rfl
theorem cells9 : Try.prog.cellsOf 9 = 1 := by kernel_rfl
instance : Inhabited S37 := ⟨z37⟩
theorem one_cell {cs : List Value} {i : Nat} {v : Value} (h : (cs.drop i).take 1 = [v]) : cs[i]? = some v := by
 have : ((cs.drop i).take 1)[0]? = some v := by rw [h]; rfl
 rw [List.getElem?_take, List.getElem?_drop] at this
 simpa using this
structure OpWf (o : S37) : Prop where
  kind : 0 ≤ o.f0 ∧ o.f0 < 256
  n : -9223372036854775808 ≤ o.f4 ∧ o.f4 ≤ 9223372036854775807
  mask : 0 ≤ o.f5 ∧ o.f5 < 256
theorem wf_i64 {n : Int} (h : (Lit.int .i64 n).wf = true) : -9223372036854775808 ≤ n ∧ n ≤ 9223372036854775807 := by
 simp [Lit.wf, show IntKind.i64.min = -9223372036854775808 from rfl, show IntKind.i64.max = 9223372036854775807 from rfl] at h; omega
theorem wf_u8 {n : Int} (h : (Lit.int .u8 n).wf = true) : 0 ≤ n ∧ n < 256 := by
 simp [Lit.wf, show IntKind.u8.min = 0 from rfl, show IntKind.u8.max = 255 from rfl] at h; omega
theorem open_ints' {H : Type} {enc : TypeId × Value → H} {W : World} {base : Nat} {spare : Nat → Bool} {held : Bool} {fuel : Nat} {cs : List Value} {x : DataW H × List MemPlace} (hf : DataW.trod enc Try.prog W base spare held fuel 29 cs = some x) :
  ∃ (a : Option Addr) (l : List Int) (cap : Nat), cs = [.slice a l.length cap] ∧ Kd.C (Kd.int .i64) W a l.length l ∧ l.length ≤ cap ∧ cap ≤ maxLen := by
 rcases open_slice Try.underlying29 hf with ⟨hcs, _⟩ | ⟨x, len, cap, m, n, D, Pl, hcs, hb, hl, hm, hmm, hx, hel⟩
 ·exact ⟨none, [], 0, hcs, Kd.C_nil _ _, Nat.le_refl _, Nat.zero_le _⟩
 ·have hlm : len ≤ m := by rw [hmm]; split <;> omega
  obtain ⟨o, ho⟩ := choose_lt (α := Int) (p := fun i o => W.cell? (x.add i) = some (.int .i64 o)) (n := len) (fun i hi => by
   obtain ⟨cs', h1, h2⟩ := hel i (by omega)
   rw [cells3] at h1
   obtain ⟨o, e, _, _⟩ := DataW.trod_int Try.underlying3 h2
   obtain ⟨_, h3, h4⟩ := World.cells?_some h1
   have := h4 0 (by omega)
   rw [Deep.add_add, Nat.mul_one, Nat.add_zero, e] at this
   exact ⟨o, this⟩)
  have hlen : ((List.range len).map o).length = len := by simp
  refine ⟨some x, (List.range len).map o, cap, by rw [hlen]; exact hcs, ?_, by rw [hlen]; exact hl, hm⟩
  refine ⟨rfl, by rw [hlen]; exact Nat.le_trans hl hm, fun hn => ⟨x, rfl, fun i p hp => ?_⟩⟩
  have hi : i < len := by
   have := (List.getElem?_eq_some_iff.1 hp).1
   rwa [hlen] at this
  have hpo : p = o i := by
   rw [List.getElem?_map, List.getElem?_range hi] at hp
   exact (Option.some.inj hp).symm
  subst hpo
  refine ⟨[.int .i64 (o i)], rfl, rfl, fun j u hj => ?_⟩
  match j with
  | 0 =>
   cases hj
   have := ho i hi
   rwa [show i * (Kd.int .i64).sz + 0 = i from by show i * 1 + 0 = i; omega]
  | j + 1 => cases hj
set_option maxRecDepth 100000 in
theorem open_op {H : Type} {enc : TypeId × Value → H} {W : World} {base : Nat} {spare : Nat → Bool} {held : Bool} {fuel : Nat} {cs : List Value} {x : DataW H × List MemPlace} (h : DataW.trod enc Try.prog W base spare held fuel 37 cs = some x) :
  ∃ o : S37, k37.K W o cs ∧ OpWf o := by
 obtain ⟨xs, n, _, _, hl, hlen, hf⟩ := DataW.trod_struct Try.underlying37 h
 rw [cells37] at hl
 have g0 : DataW.trod enc Try.prog W base spare held n 5 ((cs.drop 0).take (Try.prog.cellsOf 5)) = xs[0]? := hf 0 _ rfl
 have g1 : DataW.trod enc Try.prog W base spare held n 35 ((cs.drop 1).take (Try.prog.cellsOf 35)) = xs[1]? := hf 1 _ rfl
 have g2 : DataW.trod enc Try.prog W base spare held n 3 ((cs.drop 3).take (Try.prog.cellsOf 3)) = xs[2]? := hf 2 _ rfl
 have g3 : DataW.trod enc Try.prog W base spare held n 9 ((cs.drop 4).take (Try.prog.cellsOf 9)) = xs[3]? := hf 3 _ rfl
 have g4 : DataW.trod enc Try.prog W base spare held n 3 ((cs.drop 5).take (Try.prog.cellsOf 3)) = xs[4]? := hf 4 _ rfl
 have g5 : DataW.trod enc Try.prog W base spare held n 5 ((cs.drop 6).take (Try.prog.cellsOf 5)) = xs[5]? := hf 5 _ rfl
 have g6 : DataW.trod enc Try.prog W base spare held n 29 ((cs.drop 7).take (Try.prog.cellsOf 29)) = xs[6]? := hf 6 _ rfl
 rw [cells3] at g2 g4
 rw [cells5] at g0 g5
 rw [cells9] at g3
 rw [cells35] at g1
 rw [cells29] at g6
 match xs, hlen with
 | [y0, y1, y2, y3, y4, y5, y6], _ =>
  obtain ⟨a0, e0, _, w0⟩ := DataW.trod_int Try.underlying5 g0
  obtain ⟨zs, n2, _, _, hl2, hlen2, hf2⟩ := DataW.trod_struct Try.underlying35 g1
  have q0 : DataW.trod enc Try.prog W base spare held n2 3 ((((cs.drop 1).take 2).drop 0).take (Try.prog.cellsOf 3)) = zs[0]? := hf2 0 _ rfl
  have q1 : DataW.trod enc Try.prog W base spare held n2 3 ((((cs.drop 1).take 2).drop 1).take (Try.prog.cellsOf 3)) = zs[1]? := hf2 1 _ rfl
  rw [cells3] at q0 q1
  match zs, hlen2 with
  | [z0, z1], _ =>
   obtain ⟨b0, f0, _, _⟩ := DataW.trod_int Try.underlying3 q0
   obtain ⟨b1, f1, _, _⟩ := DataW.trod_int Try.underlying3 q1
   obtain ⟨a2, e2, _, _⟩ := DataW.trod_int Try.underlying3 g2
   obtain ⟨a3, e3, _, _⟩ := DataW.trod_string Try.underlying9 g3
   obtain ⟨a4, e4, _, w4⟩ := DataW.trod_int Try.underlying3 g4
   obtain ⟨a5, e5, _, w5⟩ := DataW.trod_int Try.underlying5 g5
   obtain ⟨A, l, c, e6, hC, hc, _⟩ := open_ints' g6
   have c0 := one_cell e0
   have c1 := one_cell f0
   have c2 := one_cell f1
   have c3 := one_cell e2
   have c4 := one_cell e3
   have c5 := one_cell e4
   have c6 := one_cell e5
   have c7 := one_cell e6
   match cs, hl with
   | [u0, u1, u2, u3, u4, u5, u6, u7], _ =>
    cases c0; cases c1; cases c2; cases c3; cases c4; cases c5; cases c6; cases c7
    exact ⟨⟨a0, ⟨b0, b1⟩, a2, a3, a4, a5, l⟩, k37_mk W ⟨a0, ⟨b0, b1⟩, a2, a3, a4, a5, l⟩ hc hC, ⟨wf_u8 w0, wf_i64 w4, wf_u8 w5⟩⟩
theorem open_ops {H : Type} {enc : TypeId × Value → H} {W : World} {base : Nat} {spare : Nat → Bool} {held : Bool} {a : Option Addr} {len cap : Nat} {d : DataW H} {ps : List MemPlace}
  (h : DataW.Trod enc Try.prog W base spare held 22 (.slice a len cap) d ps) : ∃ l : List S37, len = l.length ∧ Kd.C k37 W a l.length l ∧ l.length ≤ cap ∧ cap ≤ maxLen ∧ ∀ o ∈ l, OpWf o := by
 obtain ⟨fuel, hf⟩ := h
 rcases open_slice Try.underlying22 hf with ⟨hcs, _⟩ | ⟨x, len', cap', m, n, D, Pl, hcs, hb, hl, hm, hmm, hx, hel⟩
 ·simp [Value.cells] at hcs
  obtain ⟨rfl, rfl, rfl⟩ := hcs
  exact ⟨[], rfl, Kd.C_nil _ _, Nat.le_refl _, Nat.zero_le _, fun o ho => by cases ho⟩
 ·simp [Value.cells] at hcs
  obtain ⟨rfl, rfl, rfl⟩ := hcs
  have hlm : len ≤ m := by rw [hmm]; split <;> omega
  obtain ⟨o, ho⟩ := choose_lt (α := S37) (p := fun i o => (∃ cs, W.cells? base (x.add (i * 8)) 8 = some cs ∧ k37.K W o cs) ∧ OpWf o) (n := len) (fun i hi => by
   obtain ⟨cs, h1, h2⟩ := hel i (by omega)
   rw [cells37] at h1
   obtain ⟨o, ho, hw⟩ := open_op h2
   exact ⟨o, ⟨cs, h1, ho⟩, hw⟩)
  have hlen : ((List.range len).map o).length = len := by simp
  refine ⟨(List.range len).map o, hlen.symm, ?_, by rw [hlen]; exact hl, hm, fun p hp => ?_⟩
  ·refine ⟨rfl, by rw [hlen]; exact Nat.le_trans hl hm, fun hn => ⟨x, rfl, fun i p hp => ?_⟩⟩
   have hi : i < len := by
    have := (List.getElem?_eq_some_iff.1 hp).1
    rwa [hlen] at this
   obtain ⟨⟨cs, h1, h2⟩, _⟩ := ho i hi
   have hpo : p = o i := by
    rw [List.getElem?_map, List.getElem?_range hi] at hp
    exact (Option.some.inj hp).symm
   subst hpo
   obtain ⟨_, h3, h4⟩ := World.cells?_some h1
   refine ⟨cs, h3, h2, fun j u hj => ?_⟩
   have hj8 : j < 8 := by
    have := (List.getElem?_eq_some_iff.1 hj).1
    omega
   have := h4 j hj8
   rw [Deep.add_add] at this
   exact this.trans hj
  ·obtain ⟨i, hi, rfl⟩ := List.mem_map.1 hp
   exact (ho i (List.mem_range.1 hi)).2
end Go.Proofs.Ytflajmgichdhhaa.Opens
namespace Go.Proofs.Ytflajmgichdhhaa.PG
open Go.RowKit Go.Proofs.YtflajmgichdhhaaW.PrintWords Go.Proofs.YtflajmgichdhhaaW.PrintLast Go.Proofs.YtflajmgichdhhaaW.PrintMore
set_option linter.unusedVariables false
set_option linter.unusedSimpArgs false
def repairS (S : DevS) : DevS := { S with failed := false, fset := false, left := 0, surv := [] }
def doS (o : S37) (S : DevS) : Int × DevS :=
  if o.f0 % 8 = 0 then writeS S o.f1.f0 o.f1.f1 o.f2 o.f3 else if o.f0 % 8 = 1 then syncS S o.f1.f0 o.f1.f1 else if o.f0 % 8 = 2 then (0, finishS (isOf o.f1.f0) o.f6 S) else if o.f0 % 8 = 3 then (0, fenceS S o.f1.f0 o.f1.f1)
  else if o.f0 % 8 = 4 then (0, failS S o.f4 o.f6) else if o.f0 % 8 = 5 then (0, repairS S) else if o.f0 % 8 = 6 then damageS S o.f2 o.f4 o.f5 else returnS S o.f2 o.f4
structure Good (k : Nat) (S : DevS) : Prop where
  fine : Fine k S
  surv : S.surv.length ≤ 1000000
theorem Good.sl {k : Nat} {S : DevS} (h : Good k S) : S.surv.length ≤ 4611686018427387904 := Nat.le_trans h.surv (by decide)
theorem Good.mono {k k' : Nat} {S : DevS} (h : Good k S) (hk : k ≤ k') : Good k' S := ⟨h.fine.mono hk, h.surv⟩
theorem surv_finish (p : S99 → Bool) (l : List Int) (S : DevS) : (finishS p l S).surv = S.surv := (endF_same p l S.pend (0, S)).surv
theorem Good.finish {k : Nat} {S : DevS} (h : Good k S) (p : S99 → Bool) (l : List Int) : Good k (finishS p l S) := ⟨h.fine.finish p l, by rw [surv_finish]; exact h.surv⟩
theorem surv_admit (S : DevS) (sys ep : Int) (n : Nat) (h : S.surv.length ≤ n) : (admitS S sys ep).2.surv.length ≤ n := by
 unfold admitS
 split
 ·exact h
 ·split
  ·exact h
  ·split
   ·exact h
   ·split
    ·exact h
    ·show (finishS isAny S.surv (blown S)).surv.length ≤ n
     rw [surv_finish]
     exact Nat.zero_le _
theorem Good.admit {k : Nat} {S : DevS} (h : Good k S) (sys ep : Int) : Good k (admitS S sys ep).2 := ⟨h.fine.admit sys ep, surv_admit S sys ep _ h.surv⟩
theorem Good.write {k : Nat} {S : DevS} (h : Good k S) (sys ep sec : Int) (d : ByteArray) : Good (k + 1) (writeS S sys ep sec d).2 := by
 refine ⟨fine_w h.fine sys ep sec d, ?_⟩
 have ha := surv_admit S sys ep _ h.surv
 unfold writeS
 split
 ·split
  ·split
   ·exact ha
   ·exact ha
  ·exact h.surv
 ·exact h.surv
theorem Good.sync {k : Nat} {S : DevS} (h : Good k S) (sys ep : Int) : Good k (syncS S sys ep).2 := by
 unfold syncS
 split
 ·split
  ·exact (h.admit sys ep).finish _ _
  ·exact h.admit sys ep
 ·exact h
theorem Good.fence {k : Nat} {S : DevS} (h : Good k S) (sys ep : Int) : Good k (fenceS S sys ep) := by
 refine ⟨h.fine.fence sys ep, ?_⟩
 have key : ∀ b : Bool, (if b = true then { S with fences := fun a => if a = sys then some ep else S.fences a } else S).surv.length ≤ 1000000 := fun b => by
  cases b
  ·exact h.surv
  ·exact h.surv
 unfold fenceS
 split
 ·exact h.surv
 ·exact key _
theorem Good.fail {k : Nat} {S : DevS} (h : Good k S) (n : Int) (l : List Int) (hn : n ≤ 9223372036854775807) (hl : l.length ≤ 1000000) : Good k (failS S n l) := by
 unfold failS
 split
 ·exact h
 ·exact ⟨{ h.fine with l0 := ⟨by show 0 ≤ max 0 n; omega, by show max 0 n ≤ _; omega⟩ }, hl⟩
theorem Good.repair {k : Nat} {S : DevS} (h : Good k S) : Good k (repairS S) := ⟨{ h.fine with l0 := ⟨Int.le_refl _, by show (0 : Int) ≤ _; decide⟩ }, Nat.zero_le _⟩
theorem Good.setStable {k : Nat} {S : DevS} (h : Good k S) (n : Nat) (d : ByteArray) (hd : d.size = 140) : Good k { S with stable := S.stable.set n d } := by
 refine ⟨{ h.fine with len := by simp [h.fine.len], n0 := by simpa using h.fine.n0, n1 := by simpa using h.fine.n1, size := ?_, pend := ?_ }, h.surv⟩
 ·intro s hs
  rcases List.mem_or_eq_of_mem_set hs with hs | hs
  ·exact h.fine.size s hs
  ·rw [hs]; exact hd
 ·intro w hw
  have := h.fine.pend w hw
  simpa using this
theorem Good.damage {k : Nat} {S : DevS} (h : Good k S) (sec at_ mask : Int) : Good k (damageS S sec at_ mask).2 := by
 unfold damageS
 split
 ·rename_i h1
  split
  ·exact h
  ·exact h.setStable _ _ (by rw [damB_size]; exact h.fine.size _ (getD_mem _ _ _ (by omega)))
 ·exact h
theorem Good.ret {k : Nat} {S : DevS} (h : Good k S) (sec back : Int) : Good k (returnS S sec back).2 := by
 unfold returnS
 split
 ·rename_i h1
  refine h.setStable _ _ (h.fine.osize _ (getD_mem S.old sec.toNat [] (by rw [h.fine.len]; omega)) _ (getD_mem _ _ _ (by omega)))
 ·exact h
theorem Good.do {k : Nat} {S : DevS} (h : Good k S) (o : S37) (hw : Opens.OpWf o) (hl : o.f6.length ≤ 1000000) : Good (k + 1) (doS o S).2 := by
 unfold doS
 split
 ·exact h.write _ _ _ _
 ·split
  ·exact (h.sync _ _).mono (Nat.le_succ _)
  ·split
   ·exact (h.finish _ _).mono (Nat.le_succ _)
   ·split
    ·exact (h.fence _ _).mono (Nat.le_succ _)
    ·split
     ·exact (h.fail _ _ hw.n.2 hl).mono (Nat.le_succ _)
     ·split
      ·exact h.repair.mono (Nat.le_succ _)
      ·split
       ·exact (h.damage _ _ _).mono (Nat.le_succ _)
       ·exact (h.ret _ _).mono (Nat.le_succ _)
def opCells (o : S37) (A : Option Addr) (c : Nat) : Array Value := #[.int .u8 o.f0, .int .i64 o.f1.f0, .int .i64 o.f1.f1, .int .i64 o.f2, .string o.f3, .int .i64 o.f4, .int .u8 o.f5, .slice A o.f6.length c]
set_option maxHeartbeats 2000000 in
set_option maxRecDepth 100000 in
theorem do_calls {W : World} {B : Nat} {L : Lay} {F : Nat → Prop} {S : DevS} {k : Nat} (hI : DevIs W B L F S) (hg : Good k S) (hk : k ≤ 1000000) (o : S37) (hw : Opens.OpWf o) (A : Option Addr) (c : Nat) (hl : Kd.F (Kd.int .i64) W (fun k => ¬ F k) A o.f6.length o.f6) (hlc : o.f6.length ≤ c) (hlm : o.f6.length ≤ 1000000) :
  Calls Try.prog 14 #[.pointer (some ⟨L.g, 0, none⟩), .agg (opCells o A c)] W fun e W' => e = .returned (.int .i64 (doS o S).1) ∧ DevPost B L F (doS o S).2 W W' := by
 have hB := hI.hB
 obtain ⟨W1, hW1⟩ : ∃ W1, W1 = W.alloc (.cells (opCells o A c) 37) := ⟨_, rfl⟩
 have hb1 : Below W.heap.size W W1 := by rw [hW1]; exact below_alloc (Below.refl _ _) _
 have hI1 := hI.below hb1
 have hx : W1.heap[W.heap.size]? = some (.cells (opCells o A c) 37 (0, 0)) := by rw [hW1]; exact blk_new _ _
 have hl1 := Kd.F_below hl hb1
 have H1 := Aside0.mk hI1
 have HB1 := Aside0.mk hb1
 have HG := Aside0.mk hg
 have HL := Aside0.mk hl1
 have HWF := Aside0.mk hw
 have hk0 := hw.kind.1
 have hk1 := hw.kind.2
 obtain ⟨kd, hkd⟩ : ∃ kd, kd = o.f0 % 8 := ⟨_, rfl⟩
 have hkb : 0 ≤ kd ∧ kd < 8 := by omega
 have HWK := Aside0.mk hW1
 unfold doS
 rw [← hkd]
 have HKD := Aside0.mk hkd.symm
 clear hkd
 unfold opCells at hW1 ⊢
 clear hI hI1 hb1 hg hl hl1 hw hx HWK
 by_cases c0 : kd = 0
 ·have d0 : (o.f0 % 8 == 0) = true := by rw [HKD.out, c0]; rfl
  rw [if_pos c0]
  have HC := Aside0.mk (write_calls H1.out HG.out.fine hk HG.out.sl o.f1.f0 o.f1.f1 o.f2 o.f3)
  clear hkb c0
  subst hW1
  go_enter Try.func14, Try.ntmps14
  go_wp2_with fail
  refine HC.out.mono ?_
  rintro e W2 ⟨rfl, hp⟩
  have HP := Aside0.mk (hp.after HB1.out hB)
  clear hp HC
  go_wp2_with fail
  go_ret
  exact ⟨rfl, HP.out⟩
 ·have d0 : (o.f0 % 8 == 0) = false := beq_eq_false_iff_ne.2 (by rw [HKD.out]; exact c0)
  by_cases c1 : kd = 1
  ·have d1 : (o.f0 % 8 == 1) = true := by rw [HKD.out, c1]; rfl
   rw [if_neg c0]
   rw [if_pos c1]
   have HC := Aside0.mk (sync_calls H1.out HG.out.fine hk HG.out.sl o.f1.f0 o.f1.f1)
   clear hkb c0 c1
   subst hW1
   go_enter Try.func14, Try.ntmps14
   go_wp2_with fail
   refine HC.out.mono ?_
   rintro e W2 ⟨rfl, hp⟩
   have HP := Aside0.mk (hp.after HB1.out hB)
   clear hp HC
   go_wp2_with fail
   go_ret
   exact ⟨rfl, HP.out⟩
  ·have d1 : (o.f0 % 8 == 1) = false := beq_eq_false_iff_ne.2 (by rw [HKD.out]; exact c1)
   by_cases c2 : kd = 2
   ·have d2 : (o.f0 % 8 == 2) = true := by rw [HKD.out, c2]; rfl
    rw [if_neg c0]
    rw [if_neg c1]
    rw [if_pos c2]
    have HC := Aside0.mk (crash_calls H1.out HG.out.fine hk o.f1.f0 A c o.f6 HL.out hlc (Nat.le_trans hlm (by decide)))
    clear hkb c0 c1 c2
    subst hW1
    go_enter Try.func14, Try.ntmps14
    go_wp2_with fail
    refine HC.out.mono ?_
    rintro e W2 ⟨rfl, hp⟩
    have HP := Aside0.mk (hp.after HB1.out hB)
    clear hp HC
    go_wp2_with fail
    go_ret
    exact ⟨rfl, HP.out⟩
   ·have d2 : (o.f0 % 8 == 2) = false := beq_eq_false_iff_ne.2 (by rw [HKD.out]; exact c2)
    by_cases c3 : kd = 3
    ·have d3 : (o.f0 % 8 == 3) = true := by rw [HKD.out, c3]; rfl
     rw [if_neg c0]
     rw [if_neg c1]
     rw [if_neg c2]
     rw [if_pos c3]
     have HC := Aside0.mk (fence_calls H1.out o.f1.f0 o.f1.f1)
     clear hkb c0 c1 c2 c3
     subst hW1
     go_enter Try.func14, Try.ntmps14
     go_wp2_with fail
     refine HC.out.mono ?_
     rintro e W2 ⟨rfl, hp⟩
     have HP := Aside0.mk (hp.after HB1.out hB)
     clear hp HC
     go_wp2_with fail
     go_ret
     exact ⟨rfl, HP.out⟩
    ·have d3 : (o.f0 % 8 == 3) = false := beq_eq_false_iff_ne.2 (by rw [HKD.out]; exact c3)
     by_cases c4 : kd = 4
     ·have d4 : (o.f0 % 8 == 4) = true := by rw [HKD.out, c4]; rfl
      rw [if_neg c0]
      rw [if_neg c1]
      rw [if_neg c2]
      rw [if_neg c3]
      rw [if_pos c4]
      have HC := Aside0.mk (failafter_calls H1.out o.f4 A c o.f6 (Kd.F_now HL.out) hlm)
      clear hkb c0 c1 c2 c3 c4
      subst hW1
      go_enter Try.func14, Try.ntmps14
      go_wp2_with fail
      refine HC.out.mono ?_
      rintro e W2 ⟨rfl, hp⟩
      have HP := Aside0.mk (hp.after HB1.out hB)
      clear hp HC
      go_wp2_with fail
      go_ret
      exact ⟨rfl, HP.out⟩
     ·have d4 : (o.f0 % 8 == 4) = false := beq_eq_false_iff_ne.2 (by rw [HKD.out]; exact c4)
      by_cases c5 : kd = 5
      ·have d5 : (o.f0 % 8 == 5) = true := by rw [HKD.out, c5]; rfl
       rw [if_neg c0]
       rw [if_neg c1]
       rw [if_neg c2]
       rw [if_neg c3]
       rw [if_neg c4]
       rw [if_pos c5]
       have HC := Aside0.mk (repair_calls H1.out)
       clear hkb c0 c1 c2 c3 c4 c5
       subst hW1
       go_enter Try.func14, Try.ntmps14
       go_wp2_with fail
       refine HC.out.mono ?_
       rintro e W2 ⟨rfl, hp⟩
       have HP := Aside0.mk (hp.after HB1.out hB)
       clear hp HC
       go_wp2_with fail
       go_ret
       exact ⟨rfl, HP.out⟩
      ·have d5 : (o.f0 % 8 == 5) = false := beq_eq_false_iff_ne.2 (by rw [HKD.out]; exact c5)
       by_cases c6 : kd = 6
       ·have d6 : (o.f0 % 8 == 6) = true := by rw [HKD.out, c6]; rfl
        rw [if_neg c0]
        rw [if_neg c1]
        rw [if_neg c2]
        rw [if_neg c3]
        rw [if_neg c4]
        rw [if_neg c5]
        rw [if_pos c6]
        have HC := Aside0.mk (damage_calls H1.out HG.out.fine o.f2 o.f4 o.f5 HWF.out.mask.1 HWF.out.mask.2)
        clear hkb c0 c1 c2 c3 c4 c5 c6
        subst hW1
        go_enter Try.func14, Try.ntmps14
        go_wp2_with fail
        refine HC.out.mono ?_
        rintro e W2 ⟨rfl, hp⟩
        have HP := Aside0.mk (hp.after HB1.out hB)
        clear hp HC
        go_wp2_with fail
        go_ret
        exact ⟨rfl, HP.out⟩
       ·have d6 : (o.f0 % 8 == 6) = false := beq_eq_false_iff_ne.2 (by rw [HKD.out]; exact c6)
        have c7 : kd = 7 := by omega
        rw [if_neg c0]
        rw [if_neg c1]
        rw [if_neg c2]
        rw [if_neg c3]
        rw [if_neg c4]
        rw [if_neg c5]
        rw [if_neg c6]
        have HC := Aside0.mk (return_calls H1.out HG.out.fine o.f2 o.f4)
        clear hkb c0 c1 c2 c3 c4 c5 c6 c7
        subst hW1
        go_enter Try.func14, Try.ntmps14
        go_wp2_with fail
        refine HC.out.mono ?_
        rintro e W2 ⟨rfl, hp⟩
        have HP := Aside0.mk (hp.after HB1.out hB)
        clear hp HC
        go_wp2_with fail
        go_ret
        exact ⟨rfl, HP.out⟩
end Go.Proofs.Ytflajmgichdhhaa.PG
namespace Go.Proofs.Ytflajmgichdhhaa.PG
open Go.RowKit Go.Proofs.YtflajmgichdhhaaW.PrintWords Go.Proofs.YtflajmgichdhhaaW.PrintLast Go.Proofs.YtflajmgichdhhaaW.PrintMore
set_option linter.unusedVariables false
set_option linter.unusedSimpArgs false
open Go.ChangeMaps (setBlock)
attribute [local go_sem] max2_int min2_int max_two min_two
theorem RefAt.re {W W' : World} {ok : Nat → Prop} {w v0 v1 v2 v3 v6 : Value} {fl : List Int} {fu : Int} {sv : List Int} {S : DevS} (hA : RefAt W ok w v0 v1 v2 v3 v6 fl fu sv S) (hb : Below W.heap.size W W') (fa' : Bool) (fu' : Int) (S' : DevS) (e0 : S'.stable = S.stable) (e1 : S'.old = S.old) (e2 : S'.pend = S.pend) (hfa : fa' = S'.failed) (hf : FencesOk fl S'.fences) (hu : FuseOk fu' sv S') :
  RefIs W' (fun k => ok k ∨ W.heap.size ≤ k) (.agg #[v0, v1, v2, v3, .bool fa', .int .i64 fu', v6]) S' := by
 have mv : ∀ {α : Type} {d : Kd α} {e : Nat} {u : Value} {xs : List α}, Kd.V d e W 0 ok u xs → Kd.V d e W' 0 (fun k => ok k ∨ W.heap.size ≤ k) u xs := fun hu => Kd.V_mono (Kd.V_below hu hb) (fun k hk => Or.inl hk)
 exact ⟨_, _, _, _, _, fl, fu', sv, { hv := by rw [hfa], h0 := by rw [e0]; exact mv hA.h0, h1 := by rw [e1]; exact mv hA.h1, h2 := by rw [e2]; exact mv hA.h2, h3 := mv hA.h3, h6 := mv hA.h6, fl5 := hA.fl5, fok := hf, uok := hu }⟩
section
variable {W : World} {ok : Nat → Prop} {v : Value} {S : DevS}
set_option maxRecDepth 100000 in
theorem repair_ref (hR : RefIs W ok v S) : Calls Try.prog 33 #[v] W fun e W' => RChPost ok (repairS S) W e W' := by
 obtain ⟨v0, v1, v2, v3, v6, fl, fu, sv, hA⟩ := id hR
 obtain rfl := hA.hv
 obtain ⟨A0, c0, e0, hl0, hF0⟩ := hA.h0
 obtain ⟨A1, c1, e1, hl1, hF1⟩ := hA.h1
 obtain ⟨A2, c2, e2, hl2, hF2⟩ := hA.h2
 obtain ⟨A3, c3, e3, hl3, hF3⟩ := hA.h3
 obtain ⟨A6, c6, e6, hl6, hF6⟩ := hA.h6
 subst e0 e1 e2 e3 e6
 have HR := Aside0.mk hR
 have HA := Aside0.mk hA
 have HF0 := Aside0.mk hF0
 have HF1 := Aside0.mk hF1
 have HF2 := Aside0.mk hF2
 have HF3 := Aside0.mk hF3
 obtain ⟨n0, hn0⟩ : ∃ n0, n0 = S.stable.length := ⟨_, rfl⟩
 obtain ⟨n1, hn1⟩ : ∃ n1, n1 = S.old.length := ⟨_, rfl⟩
 obtain ⟨n2, hn2⟩ : ∃ n2, n2 = S.pend.length := ⟨_, rfl⟩
 obtain ⟨n3, hn3⟩ : ∃ n3, n3 = fl.length := ⟨_, rfl⟩
 obtain ⟨n6, hn6⟩ : ∃ n6, n6 = sv.length := ⟨_, rfl⟩
 obtain ⟨fa, hfa⟩ : ∃ fa, fa = S.failed := ⟨_, rfl⟩
 have EQ := Aside0.mk (show n0 = S.stable.length ∧ n1 = S.old.length ∧ n2 = S.pend.length ∧ n3 = fl.length ∧ n6 = sv.length ∧ fa = S.failed from ⟨hn0, hn1, hn2, hn3, hn6, hfa⟩)
 rw [← hn0, ← hn1, ← hn2, ← hn3, ← hn6, ← hfa]
 rw [← hn0, ← hn1, ← hn2, ← hn3, ← hn6, ← hfa] at HR
 clear hR hA hF0 hF1 hF2 hF3 hF6 hl0 hl1 hl2 hl3 hl6 hn0 hn1 hn2 hn3 hn6 hfa
 go_enter Try.func33, Try.ntmps33
 go_wp2_with fail
 have hx2 : ((W.alloc (.cells #[.slice A0 n0 c0, .slice A1 n1 c1, .slice A2 n2 c2, .slice A3 n3 c3, .bool false, .int .i64 (-1), .slice A6 n6 c6] 31)).alloc (.cells #[.slice A0 n0 c0, .slice A1 n1 c1, .slice A2 n2 c2, .slice A3 n3 c3, .bool false, .int .i64 (-1), .slice A6 n6 c6] 31)).heap[W.heap.size + 1]? = some (.cells #[.slice A0 n0 c0, .slice A1 n1 c1, .slice A2 n2 c2, .slice A3 n3 c3, .bool false, .int .i64 (-1), .slice A6 n6 c6] 31 (0, 0)) := by
  rw [show W.heap.size + 1 = (W.alloc (.cells #[.slice A0 n0 c0, .slice A1 n1 c1, .slice A2 n2 c2, .slice A3 n3 c3, .bool false, .int .i64 (-1), .slice A6 n6 c6] 31)).heap.size by simp]; exact blk_new _ _
 have hb2 : Below W.heap.size W ((W.alloc (.cells #[.slice A0 n0 c0, .slice A1 n1 c1, .slice A2 n2 c2, .slice A3 n3 c3, .bool false, .int .i64 (-1), .slice A6 n6 c6] 31)).alloc (.cells #[.slice A0 n0 c0, .slice A1 n1 c1, .slice A2 n2 c2, .slice A3 n3 c3, .bool false, .int .i64 (-1), .slice A6 n6 c6] 31)) := below_alloc (below_alloc (Below.refl _ _) _) _
 refine bodyPost_ret (results_c rfl _ _ (W.heap.size + 1) 31 #[.slice A0 n0 c0, .slice A1 n1 c1, .slice A2 n2 c2, .slice A3 n3 c3, .bool false, .int .i64 (-1), .slice A6 n6 c6] (0, 0) _ rfl hx2 Try.underlying31 rfl (by kernel_rfl)) rfl ?_
 refine ⟨_, rfl, ?_, hb2⟩
 obtain ⟨rfl, rfl, rfl, rfl, rfl, rfl⟩ := EQ.out
 exact HA.out.re hb2 false (-1) (repairS S) rfl rfl rfl rfl HA.out.fok ⟨fun _ => rfl, fun z => by cases z⟩
set_option maxRecDepth 100000 in
theorem failafter_ref (hR : RefIs W ok v S) (n : Int) (A : Option Addr) (c : Nat) (l : List Int) (hC : Kd.C (Kd.int .i64) W A l.length l) (hl : l.length ≤ 1000000) : Calls Try.prog 32 #[v, .int .i64 n, .slice A l.length c] W fun e W' => RChPost ok (failS S n l) W e W' := by
 have HC := Aside0.mk hC
 unfold failS
 obtain ⟨v0, v1, v2, v3, v6, fl, fu, sv, hA⟩ := id hR
 obtain rfl := hA.hv
 obtain ⟨A0, c0, e0, hl0, hF0⟩ := hA.h0
 obtain ⟨A1, c1, e1, hl1, hF1⟩ := hA.h1
 obtain ⟨A2, c2, e2, hl2, hF2⟩ := hA.h2
 obtain ⟨A3, c3, e3, hl3, hF3⟩ := hA.h3
 obtain ⟨A6, c6, e6, hl6, hF6⟩ := hA.h6
 subst e0 e1 e2 e3 e6
 have HR := Aside0.mk hR
 have HA := Aside0.mk hA
 have HF0 := Aside0.mk hF0
 have HF1 := Aside0.mk hF1
 have HF2 := Aside0.mk hF2
 have HF3 := Aside0.mk hF3
 obtain ⟨n0, hn0⟩ : ∃ n0, n0 = S.stable.length := ⟨_, rfl⟩
 obtain ⟨n1, hn1⟩ : ∃ n1, n1 = S.old.length := ⟨_, rfl⟩
 obtain ⟨n2, hn2⟩ : ∃ n2, n2 = S.pend.length := ⟨_, rfl⟩
 obtain ⟨n3, hn3⟩ : ∃ n3, n3 = fl.length := ⟨_, rfl⟩
 obtain ⟨n6, hn6⟩ : ∃ n6, n6 = sv.length := ⟨_, rfl⟩
 obtain ⟨fa, hfa⟩ : ∃ fa, fa = S.failed := ⟨_, rfl⟩
 have EQ := Aside0.mk (show n0 = S.stable.length ∧ n1 = S.old.length ∧ n2 = S.pend.length ∧ n3 = fl.length ∧ n6 = sv.length ∧ fa = S.failed from ⟨hn0, hn1, hn2, hn3, hn6, hfa⟩)
 rw [← hn0, ← hn1, ← hn2, ← hn3, ← hn6, ← hfa]
 rw [← hn0, ← hn1, ← hn2, ← hn3, ← hn6, ← hfa] at HR
 clear hR hA hF0 hF1 hF2 hF3 hF6 hl0 hl1 hl2 hl3 hl6 hn0 hn1 hn2 hn3 hn6 hfa
 clear hC
 cases fa with
 | true =>
  rw [if_pos rfl]
  go_enter Try.func32, Try.ntmps32
  go_wp2_with fail
  have hx2 : ((W.alloc (.cells #[.slice A0 n0 c0, .slice A1 n1 c1, .slice A2 n2 c2, .slice A3 n3 c3, .bool true, .int .i64 fu, .slice A6 n6 c6] 31)).alloc (.cells #[.slice A0 n0 c0, .slice A1 n1 c1, .slice A2 n2 c2, .slice A3 n3 c3, .bool true, .int .i64 fu, .slice A6 n6 c6] 31)).heap[W.heap.size + 1]? = some (.cells #[.slice A0 n0 c0, .slice A1 n1 c1, .slice A2 n2 c2, .slice A3 n3 c3, .bool true, .int .i64 fu, .slice A6 n6 c6] 31 (0, 0)) := by
   rw [show W.heap.size + 1 = (W.alloc (.cells #[.slice A0 n0 c0, .slice A1 n1 c1, .slice A2 n2 c2, .slice A3 n3 c3, .bool true, .int .i64 fu, .slice A6 n6 c6] 31)).heap.size by simp]; exact blk_new _ _
  have hb2 : Below W.heap.size W ((W.alloc (.cells #[.slice A0 n0 c0, .slice A1 n1 c1, .slice A2 n2 c2, .slice A3 n3 c3, .bool true, .int .i64 fu, .slice A6 n6 c6] 31)).alloc (.cells #[.slice A0 n0 c0, .slice A1 n1 c1, .slice A2 n2 c2, .slice A3 n3 c3, .bool true, .int .i64 fu, .slice A6 n6 c6] 31)) := below_alloc (below_alloc (Below.refl _ _) _) _
  refine bodyPost_ret (results_c rfl _ _ (W.heap.size + 1) 31 #[.slice A0 n0 c0, .slice A1 n1 c1, .slice A2 n2 c2, .slice A3 n3 c3, .bool true, .int .i64 fu, .slice A6 n6 c6] (0, 0) _ rfl hx2 Try.underlying31 rfl (by kernel_rfl)) rfl ?_
  refine ⟨_, rfl, ?_, hb2⟩
  exact (HR.out.below hb2).mono (fun k hk _ => Or.inl hk)
 | false =>
  rw [if_neg (by simp)]
  have ways : (n < 0 ∧ max 0 n = 0) ∨ (¬ n < 0 ∧ max 0 n = n) := by omega
  obtain ⟨nl, hnl⟩ : ∃ nl, nl = l.length := ⟨_, rfl⟩
  rw [← hnl]
  rw [← hnl] at hl HC
  have HNL := Aside0.mk hnl
  clear hnl
  rcases ways with ⟨hn, hm⟩ | ⟨hn, hm⟩
  ·rw [hm]
   have HM := Aside0.mk hn
   clear hm
   go_enter Try.func32, Try.ntmps32
   go_wp2_with ((with_reducible refine gate_dst (N := 14) rfl ?_); refine stopHere ?_)
   obtain ⟨f0, f1, f2, fb⟩ := three W (.cells #[.slice A0 n0 c0, .slice A1 n1 c1, .slice A2 n2 c2, .slice A3 n3 c3, .bool false, .int .i64 fu, .slice A6 n6 c6] 31) (.cells #[.slice none 0 0, .slice none 0 0, .slice none 0 0, .slice none 0 0, .bool false, .int .i64 0, .slice none 0 0] 31) (.cells #[] 3)
   obtain ⟨w3, hw3⟩ : ∃ w3, w3 = ((W.alloc (.cells #[.slice A0 n0 c0, .slice A1 n1 c1, .slice A2 n2 c2, .slice A3 n3 c3, .bool false, .int .i64 fu, .slice A6 n6 c6] 31)).alloc (.cells #[.slice none 0 0, .slice none 0 0, .slice none 0 0, .slice none 0 0, .bool false, .int .i64 0, .slice none 0 0] 31)).alloc (.cells #[] 3) := ⟨_, rfl⟩
   rw [← hw3] at f0 f1 f2 fb ⊢
   obtain ⟨bx, hbx⟩ : ∃ bx, bx = W.heap.size := ⟨_, rfl⟩
   obtain ⟨rb, hrb⟩ : ∃ rb, rb = W.heap.size + 1 := ⟨_, rfl⟩
   obtain ⟨e0, he0⟩ : ∃ e0, e0 = W.heap.size + 1 + 1 := ⟨_, rfl⟩
   rw [← he0] at f2 ⊢
   rw [← hrb] at f1 ⊢
   rw [show (Value.pointer (some ⟨W.heap.size, 0, none⟩)) = .pointer (some ⟨bx, 0, none⟩) by rw [hbx]]
   rw [← hbx] at f0
   have LB := Aside0.mk (show W.heap.size ≤ bx ∧ W.heap.size ≤ rb ∧ W.heap.size ≤ e0 ∧ bx ≠ rb ∧ bx ≠ e0 ∧ rb ≠ e0 from ⟨by omega, by omega, by omega, by omega, by omega, by omega⟩)
   clear hw3 hbx hrb he0
   refine ⟨?_⟩
   refine Kd.R_append_rows (Kd.int .i64) (w0 := W) W.heap.size rfl (.tmp 12) (.tmp 13) 29 3 (.int .i64 0) 8 rfl Try.underlying29 info3 rfl (by decide) (by omega) _ [] l A nl c (fun k => W.heap.size ≤ k) (fun _ => False) rfl rfl (empty_own' f2 LB.out.2.2.1) (Kd.C_below HC.out fb) (fun _ _ h => h) (fun _ h => h.elim) (fun k hk => Nat.le_trans fb.size hk) fb fb.size (by simp; omega) ?_
   intro v1 w4 hR1 hb4 hg4 hat4
   rw [List.nil_append] at hR1
   obtain ⟨A9, c9, hv1⟩ := Kd.R_slice hR1
   rw [← HNL.out] at hv1
   subst hv1
   have f0 : w4.heap[bx]? = some (.cells #[.slice A0 n0 c0, .slice A1 n1 c1, .slice A2 n2 c2, .slice A3 n3 c3, .bool false, .int .i64 fu, .slice A6 n6 c6] 31 (0, 0)) := (hg4.block bx (blk_lt f0) (fun e => LB.out.2.2.2.2.1 (Option.some.inj e))).trans f0
   have f1 : w4.heap[rb]? = some (.cells #[.slice none 0 0, .slice none 0 0, .slice none 0 0, .slice none 0 0, .bool false, .int .i64 0, .slice none 0 0] 31 (0, 0)) := (hg4.block rb (blk_lt f1) (fun e => LB.out.2.2.2.2.2 (Option.some.inj e))).trans f1
   obtain ⟨k0, k1, k2, k3, k4, k5, k6⟩ := cells7 f0
   obtain ⟨z0, z1, z2, z3, z4, z5, z6⟩ := froz7 f0
   obtain ⟨r0, r1, r2, r3, r4, r5, r6⟩ := cells7 f1
   obtain ⟨s0, s1, s2, s3, s4, s5, s6⟩ := froz7 f1
   have ne1 : bx ≠ rb := LB.out.2.2.2.1
   have ne2 : rb ≠ bx := fun e => ne1 e.symm
   have F0 := Aside0.mk f0
   have F1 := Aside0.mk f1
   have HR1 := Aside0.mk hR1
   have HB4 := Aside0.mk hb4
   clear f0 f1 f2 fb hR1 hb4 hg4 hat4
   go_wp2_with fail
   have hB1 : ((w4.setCell ⟨bx, 5, none⟩ (.int .i64 0)).setCell ⟨bx, 6, none⟩ (.slice A9 nl c9)).heap[rb]? = some (.cells #[.slice none 0 0, .slice none 0 0, .slice none 0 0, .slice none 0 0, .bool false, .int .i64 0, .slice none 0 0] 31 (0, 0)) := (Below.heap_setCell _ _ _ _ ne2).trans ((Below.heap_setCell _ _ _ _ ne2).trans F1.out)
   have hbB : Below W.heap.size W ((w4.setCell ⟨bx, 5, none⟩ (.int .i64 0)).setCell ⟨bx, 6, none⟩ (.slice A9 nl c9)) := (HB4.out.setCell (p := ⟨bx, 5, none⟩) LB.out.1 _).setCell (p := ⟨bx, 6, none⟩) LB.out.1 _
   have hbC := set7_below hbB LB.out.2.1 (.slice A0 n0 c0) (.slice A1 n1 c1) (.slice A2 n2 c2) (.slice A3 n3 c3) (.bool false) (.int .i64 0) (.slice A9 nl c9)
   refine bodyPost_ret (results_c rfl _ _ rb 31 #[.slice A0 n0 c0, .slice A1 n1 c1, .slice A2 n2 c2, .slice A3 n3 c3, .bool false, .int .i64 0, .slice A9 nl c9] (0, 0) _ rfl (set7_blk hB1 (.slice A0 n0 c0) (.slice A1 n1 c1) (.slice A2 n2 c2) (.slice A3 n3 c3) (.bool false) (.int .i64 0) (.slice A9 nl c9)) Try.underlying31 rfl (by kernel_rfl)) rfl ?_
   refine ⟨_, rfl, ?_, hbC⟩
   have hf : ∀ k, k ≠ bx → k ≠ rb → (set7 ((w4.setCell ⟨bx, 5, none⟩ (.int .i64 0)).setCell ⟨bx, 6, none⟩ (.slice A9 nl c9)) rb (.slice A0 n0 c0) (.slice A1 n1 c1) (.slice A2 n2 c2) (.slice A3 n3 c3) (.bool false) (.int .i64 0) (.slice A9 nl c9)).heap[k]? = w4.heap[k]? := fun k h1 h2 => (set7_far _ rb (.slice A0 n0 c0) (.slice A1 n1 c1) (.slice A2 n2 c2) (.slice A3 n3 c3) (.bool false) (.int .i64 0) (.slice A9 nl c9) k h2).trans ((Below.heap_setCell _ _ _ _ h1).trans (Below.heap_setCell _ _ _ _ h1))
   have hV := Kd.V_mono (Kd.R_V (base' := 0) (Kd.R_step (Kd.R_types (Kd.R_types HR1.out F0.out (by decide)) F1.out (by decide)) (fun k hk _ => hf k hk.1.2 hk.2))) (ok' := fun k => ok k ∨ W.heap.size ≤ k) (fun k hk => Or.inr hk.1.1)
   have mv : ∀ {α : Type} {d : Kd α} {e : Nat} {u : Value} {xs : List α}, Kd.V d e W 0 ok u xs → Kd.V d e (set7 ((w4.setCell ⟨bx, 5, none⟩ (.int .i64 0)).setCell ⟨bx, 6, none⟩ (.slice A9 nl c9)) rb (.slice A0 n0 c0) (.slice A1 n1 c1) (.slice A2 n2 c2) (.slice A3 n3 c3) (.bool false) (.int .i64 0) (.slice A9 nl c9)) 0 (fun k => ok k ∨ W.heap.size ≤ k) u xs := fun hu => Kd.V_mono (Kd.V_below hu hbC) (fun k hk => Or.inl hk)
   obtain ⟨q0, q1, q2, q3, q4, q5⟩ := EQ.out
   have hA := HA.out
   rw [← q0, ← q1, ← q2, ← q3] at hA
   exact ⟨_, _, _, _, _, fl, 0, l, { hv := rfl, h0 := mv hA.h0, h1 := mv hA.h1, h2 := mv hA.h2, h3 := mv hA.h3, h6 := hV, fl5 := hA.fl5, fok := hA.fok, uok := ⟨(fun z => by cases z), fun _ => ⟨rfl, rfl⟩⟩ }⟩
  ·rw [hm]
   have HM := Aside0.mk hn
   clear hm
   go_enter Try.func32, Try.ntmps32
   go_wp2_with ((with_reducible refine gate_dst (N := 14) rfl ?_); refine stopHere ?_)
   obtain ⟨f0, f1, f2, fb⟩ := three W (.cells #[.slice A0 n0 c0, .slice A1 n1 c1, .slice A2 n2 c2, .slice A3 n3 c3, .bool false, .int .i64 fu, .slice A6 n6 c6] 31) (.cells #[.slice none 0 0, .slice none 0 0, .slice none 0 0, .slice none 0 0, .bool false, .int .i64 0, .slice none 0 0] 31) (.cells #[] 3)
   obtain ⟨w3, hw3⟩ : ∃ w3, w3 = ((W.alloc (.cells #[.slice A0 n0 c0, .slice A1 n1 c1, .slice A2 n2 c2, .slice A3 n3 c3, .bool false, .int .i64 fu, .slice A6 n6 c6] 31)).alloc (.cells #[.slice none 0 0, .slice none 0 0, .slice none 0 0, .slice none 0 0, .bool false, .int .i64 0, .slice none 0 0] 31)).alloc (.cells #[] 3) := ⟨_, rfl⟩
   rw [← hw3] at f0 f1 f2 fb ⊢
   obtain ⟨bx, hbx⟩ : ∃ bx, bx = W.heap.size := ⟨_, rfl⟩
   obtain ⟨rb, hrb⟩ : ∃ rb, rb = W.heap.size + 1 := ⟨_, rfl⟩
   obtain ⟨e0, he0⟩ : ∃ e0, e0 = W.heap.size + 1 + 1 := ⟨_, rfl⟩
   rw [← he0] at f2 ⊢
   rw [← hrb] at f1 ⊢
   rw [show (Value.pointer (some ⟨W.heap.size, 0, none⟩)) = .pointer (some ⟨bx, 0, none⟩) by rw [hbx]]
   rw [← hbx] at f0
   have LB := Aside0.mk (show W.heap.size ≤ bx ∧ W.heap.size ≤ rb ∧ W.heap.size ≤ e0 ∧ bx ≠ rb ∧ bx ≠ e0 ∧ rb ≠ e0 from ⟨by omega, by omega, by omega, by omega, by omega, by omega⟩)
   clear hw3 hbx hrb he0
   refine ⟨?_⟩
   refine Kd.R_append_rows (Kd.int .i64) (w0 := W) W.heap.size rfl (.tmp 12) (.tmp 13) 29 3 (.int .i64 0) 8 rfl Try.underlying29 info3 rfl (by decide) (by omega) _ [] l A nl c (fun k => W.heap.size ≤ k) (fun _ => False) rfl rfl (empty_own' f2 LB.out.2.2.1) (Kd.C_below HC.out fb) (fun _ _ h => h) (fun _ h => h.elim) (fun k hk => Nat.le_trans fb.size hk) fb fb.size (by simp; omega) ?_
   intro v1 w4 hR1 hb4 hg4 hat4
   rw [List.nil_append] at hR1
   obtain ⟨A9, c9, hv1⟩ := Kd.R_slice hR1
   rw [← HNL.out] at hv1
   subst hv1
   have f0 : w4.heap[bx]? = some (.cells #[.slice A0 n0 c0, .slice A1 n1 c1, .slice A2 n2 c2, .slice A3 n3 c3, .bool false, .int .i64 fu, .slice A6 n6 c6] 31 (0, 0)) := (hg4.block bx (blk_lt f0) (fun e => LB.out.2.2.2.2.1 (Option.some.inj e))).trans f0
   have f1 : w4.heap[rb]? = some (.cells #[.slice none 0 0, .slice none 0 0, .slice none 0 0, .slice none 0 0, .bool false, .int .i64 0, .slice none 0 0] 31 (0, 0)) := (hg4.block rb (blk_lt f1) (fun e => LB.out.2.2.2.2.2 (Option.some.inj e))).trans f1
   obtain ⟨k0, k1, k2, k3, k4, k5, k6⟩ := cells7 f0
   obtain ⟨z0, z1, z2, z3, z4, z5, z6⟩ := froz7 f0
   obtain ⟨r0, r1, r2, r3, r4, r5, r6⟩ := cells7 f1
   obtain ⟨s0, s1, s2, s3, s4, s5, s6⟩ := froz7 f1
   have ne1 : bx ≠ rb := LB.out.2.2.2.1
   have ne2 : rb ≠ bx := fun e => ne1 e.symm
   have F0 := Aside0.mk f0
   have F1 := Aside0.mk f1
   have HR1 := Aside0.mk hR1
   have HB4 := Aside0.mk hb4
   clear f0 f1 f2 fb hR1 hb4 hg4 hat4
   go_wp2_with fail
   have hB1 : ((w4.setCell ⟨bx, 5, none⟩ (.int .i64 n)).setCell ⟨bx, 6, none⟩ (.slice A9 nl c9)).heap[rb]? = some (.cells #[.slice none 0 0, .slice none 0 0, .slice none 0 0, .slice none 0 0, .bool false, .int .i64 0, .slice none 0 0] 31 (0, 0)) := (Below.heap_setCell _ _ _ _ ne2).trans ((Below.heap_setCell _ _ _ _ ne2).trans F1.out)
   have hbB : Below W.heap.size W ((w4.setCell ⟨bx, 5, none⟩ (.int .i64 n)).setCell ⟨bx, 6, none⟩ (.slice A9 nl c9)) := (HB4.out.setCell (p := ⟨bx, 5, none⟩) LB.out.1 _).setCell (p := ⟨bx, 6, none⟩) LB.out.1 _
   have hbC := set7_below hbB LB.out.2.1 (.slice A0 n0 c0) (.slice A1 n1 c1) (.slice A2 n2 c2) (.slice A3 n3 c3) (.bool false) (.int .i64 n) (.slice A9 nl c9)
   refine bodyPost_ret (results_c rfl _ _ rb 31 #[.slice A0 n0 c0, .slice A1 n1 c1, .slice A2 n2 c2, .slice A3 n3 c3, .bool false, .int .i64 n, .slice A9 nl c9] (0, 0) _ rfl (set7_blk hB1 (.slice A0 n0 c0) (.slice A1 n1 c1) (.slice A2 n2 c2) (.slice A3 n3 c3) (.bool false) (.int .i64 n) (.slice A9 nl c9)) Try.underlying31 rfl (by kernel_rfl)) rfl ?_
   refine ⟨_, rfl, ?_, hbC⟩
   have hf : ∀ k, k ≠ bx → k ≠ rb → (set7 ((w4.setCell ⟨bx, 5, none⟩ (.int .i64 n)).setCell ⟨bx, 6, none⟩ (.slice A9 nl c9)) rb (.slice A0 n0 c0) (.slice A1 n1 c1) (.slice A2 n2 c2) (.slice A3 n3 c3) (.bool false) (.int .i64 n) (.slice A9 nl c9)).heap[k]? = w4.heap[k]? := fun k h1 h2 => (set7_far _ rb (.slice A0 n0 c0) (.slice A1 n1 c1) (.slice A2 n2 c2) (.slice A3 n3 c3) (.bool false) (.int .i64 n) (.slice A9 nl c9) k h2).trans ((Below.heap_setCell _ _ _ _ h1).trans (Below.heap_setCell _ _ _ _ h1))
   have hV := Kd.V_mono (Kd.R_V (base' := 0) (Kd.R_step (Kd.R_types (Kd.R_types HR1.out F0.out (by decide)) F1.out (by decide)) (fun k hk _ => hf k hk.1.2 hk.2))) (ok' := fun k => ok k ∨ W.heap.size ≤ k) (fun k hk => Or.inr hk.1.1)
   have mv : ∀ {α : Type} {d : Kd α} {e : Nat} {u : Value} {xs : List α}, Kd.V d e W 0 ok u xs → Kd.V d e (set7 ((w4.setCell ⟨bx, 5, none⟩ (.int .i64 n)).setCell ⟨bx, 6, none⟩ (.slice A9 nl c9)) rb (.slice A0 n0 c0) (.slice A1 n1 c1) (.slice A2 n2 c2) (.slice A3 n3 c3) (.bool false) (.int .i64 n) (.slice A9 nl c9)) 0 (fun k => ok k ∨ W.heap.size ≤ k) u xs := fun hu => Kd.V_mono (Kd.V_below hu hbC) (fun k hk => Or.inl hk)
   obtain ⟨q0, q1, q2, q3, q4, q5⟩ := EQ.out
   have hA := HA.out
   rw [← q0, ← q1, ← q2, ← q3] at hA
   exact ⟨_, _, _, _, _, fl, n, l, { hv := rfl, h0 := mv hA.h0, h1 := mv hA.h1, h2 := mv hA.h2, h3 := mv hA.h3, h6 := hV, fl5 := hA.fl5, fok := hA.fok, uok := ⟨(fun z => by cases z), fun _ => ⟨rfl, rfl⟩⟩ }⟩
end
end Go.Proofs.Ytflajmgichdhhaa.PG
