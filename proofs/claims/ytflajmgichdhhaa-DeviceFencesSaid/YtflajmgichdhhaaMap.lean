/- A map from numbers to numbers in memory, as a list of entries. -/
import Derived.Test.YtflajmgichdhhaaBase
import Derived.BigQuiet

import Derived.Maps.OwnSet
namespace Go.Proofs.Ytflajmgichdhhaa.PG
open Go.RowKit Go.Proofs.YtflajmgichdhhaaW.PrintWords Go.Proofs.YtflajmgichdhhaaW.PrintLast Go.Proofs.YtflajmgichdhhaaW.PrintMore
open Go.ChangeMaps (setBlock)
set_option linter.unusedVariables false
set_option linter.unusedSimpArgs false
def encP (a : Int) : Value := .int .i64 a
def encC (c : Int) : Value := .int .i64 c
abbrev Ents := List (Int × Int)
/-- What a list of entries says of a place. -/
def look (a : Int) : Ents → Option Int
  | [] => none
  | e :: m => if e.1 = a then some e.2 else look a m
def fidx (a : Int) : Ents → Nat → Option (Nat × Int)
  | [], _ => none
  | e :: m, i => if e.1 = a then some (i, e.2) else fidx a m (i + 1)
def upd (a : Int) (c : Int) : Ents → Ents
  | [] => [(a, c)]
  | e :: m => if e.1 = a then (a, c) :: m else e :: upd a c m
def del (a : Int) : Ents → Ents
  | [] => []
  | e :: m => if e.1 = a then m else e :: del a m
def keys (m : Ents) : List Int := m.map Prod.fst
theorem look_fidx (a : Int) : ∀ (m : Ents) (i : Nat), (fidx a m i).map Prod.snd = look a m
  | [], _ => rfl
  | e :: m, i => by
    unfold fidx look
    split
    · rfl
    · exact look_fidx a m (i + 1)
theorem look_upd (a b : Int) (c : Int) : ∀ m : Ents, look b (upd a c m) = if b = a then some c else look b m
  | [] => by
    simp only [upd, look]
    by_cases h : a = b
    · rw [if_pos h, if_pos h.symm]
    · rw [if_neg h, if_neg (fun z => h z.symm)]
  | e :: m => by
    simp only [upd]
    by_cases h : e.1 = a
    · rw [if_pos h]
      simp only [look]
      by_cases hb : b = a
      · rw [if_pos hb.symm, if_pos hb]
      · rw [if_neg (fun z => hb z.symm), if_neg hb, if_neg (fun z => hb (z.symm.trans h))]
    · rw [if_neg h]
      simp only [look]
      by_cases he : e.1 = b
      · rw [if_pos he, if_neg (fun z => h (he.trans z)), if_pos he]
      · rw [if_neg he, look_upd a b c m, if_neg he]
theorem keys_upd (a : Int) (c : Int) : ∀ (m : Ents) (x : Int), x ∈ keys (upd a c m) → x = a ∨ x ∈ keys m
  | [], x, h => by simp [upd, keys] at h; exact Or.inl h
  | e :: m, x, h => by
    simp only [upd] at h
    by_cases he : e.1 = a
    · rw [if_pos he] at h
      rcases List.mem_cons.1 h with h | h
      · exact Or.inl h
      · exact Or.inr (List.mem_cons_of_mem _ h)
    · rw [if_neg he] at h
      rcases List.mem_cons.1 h with h | h
      · exact Or.inr (by rw [h]; exact List.mem_cons_self)
      · rcases keys_upd a c m x h with h | h
        · exact Or.inl h
        · exact Or.inr (List.mem_cons_of_mem _ h)
theorem nodup_upd (a : Int) (c : Int) : ∀ m : Ents, (keys m).Nodup → (keys (upd a c m)).Nodup
  | [], _ => by simp [upd, keys]
  | e :: m, h => by
    obtain ⟨h1, h2⟩ := List.nodup_cons.1 (show (e.1 :: keys m).Nodup from h)
    simp only [upd]
    by_cases he : e.1 = a
    · rw [if_pos he]
      exact List.nodup_cons.2 ⟨he ▸ h1, h2⟩
    · rw [if_neg he]
      refine List.nodup_cons.2 ⟨fun hx => ?_, nodup_upd a c m h2⟩
      rcases keys_upd a c m _ hx with hx | hx
      · exact he hx
      · exact h1 hx
theorem look_none (a : Int) : ∀ m : Ents, a ∉ keys m → look a m = none
  | [], _ => rfl
  | e :: m, h => by
    simp only [look]
    rw [if_neg (fun z => h (by rw [← z]; exact List.mem_cons_self)), look_none a m (fun z => h (List.mem_cons_of_mem _ z))]
theorem keys_del (a : Int) : ∀ (m : Ents) (x : Int), x ∈ keys (del a m) → x ∈ keys m
  | [], x, h => h
  | e :: m, x, h => by
    simp only [del] at h
    by_cases he : e.1 = a
    · rw [if_pos he] at h
      exact List.mem_cons_of_mem _ h
    · rw [if_neg he] at h
      rcases List.mem_cons.1 h with h | h
      · rw [h]; exact List.mem_cons_self
      · exact List.mem_cons_of_mem _ (keys_del a m x h)
theorem nodup_del (a : Int) : ∀ m : Ents, (keys m).Nodup → (keys (del a m)).Nodup
  | [], h => h
  | e :: m, h => by
    obtain ⟨h1, h2⟩ := List.nodup_cons.1 (show (e.1 :: keys m).Nodup from h)
    simp only [del]
    by_cases he : e.1 = a
    · rw [if_pos he]
      exact h2
    · rw [if_neg he]
      exact List.nodup_cons.2 ⟨fun hx => h1 (keys_del a m _ hx), nodup_del a m h2⟩
theorem look_del (a b : Int) : ∀ m : Ents, (keys m).Nodup → look b (del a m) = if b = a then none else look b m
  | [], _ => by simp [del, look]
  | e :: m, h => by
    obtain ⟨h1, h2⟩ := List.nodup_cons.1 (show (e.1 :: keys m).Nodup from h)
    simp only [del]
    by_cases he : e.1 = a
    · rw [if_pos he]
      by_cases hb : b = a
      · rw [if_pos hb, hb]
        exact look_none a m (he ▸ h1)
      · rw [if_neg hb]
        simp only [look]
        rw [if_neg (fun z => hb (z.symm.trans he))]
    · rw [if_neg he]
      simp only [look]
      by_cases hz : e.1 = b
      · rw [if_pos hz, if_neg (fun z => he (hz.trans z)), if_pos hz]
      · rw [if_neg hz, look_del a b m h2, if_neg hz]

/-! ### in memory -/
def entry (x : MapEntry) : Value × Value := (x.key, x.val)
/-- Block b is a map of these entries; no place twice. -/
def MapIs (w : World) (b : Nat) (m : Ents) : Prop :=
  ∃ es clock, w.heap[b]? = some (.map es clock) ∧ es.toList.map entry = m.map (fun x => (encP x.1, encC x.2)) ∧ (keys m).Nodup ∧ MapKept.Stamped es clock
theorem MapIs.lt {w : World} {b : Nat} {m : Ents} (h : MapIs w b m) : b < w.heap.size := by obtain ⟨es, c, hb, _⟩ := h; exact (Array.getElem?_eq_some_iff.1 hb).1
theorem MapIs.nodup {w : World} {b : Nat} {m : Ents} (h : MapIs w b m) : (keys m).Nodup := by obtain ⟨es, c, hb, _, hn, _⟩ := h; exact hn
theorem MapIs.move {w w' : World} {b : Nat} {m : Ents} (h : MapIs w b m) (hb : w'.heap[b]? = w.heap[b]?) : MapIs w' b m := by obtain ⟨es, c, h1, h2⟩ := h; exact ⟨es, c, hb.trans h1, h2⟩
theorem MapIs.made (w : World) : MapIs (w.alloc (.map #[] 0)) w.heap.size [] := ⟨#[], 0, (MapKept.heap_alloc w _).1, rfl, List.nodup_nil, MapKept.stamped_empty 0⟩

theorem check3 (w : World) (em : Bool) (x : Int) : (Instr.checkKey em 10000 3 (.int .i64 x)).run Try.prog w = .ok () w := by kernel_rfl
theorem stays3 (w : World) (x : Int) : (Instr.keyThatStays (.int .i64 x) (.int .i64 x)).run Try.prog w = .ok (.int .i64 x) w := by
  simp [Instr.keyThatStays, Instr.sameBits]
theorem same_now (a b : Int) : Instr.sameNow (.int .i64) (.int .i64 a) (.int .i64 b) = some (decide (a = b)) := by
  simp [Instr.sameNow]
  by_cases h : a = b <;> simp [h]
theorem find_now (a : Int) : ∀ (es : List MapEntry) (m : Ents) (i : Nat), es.map entry = m.map (fun x => (encP x.1, encC x.2)) →
    Instr.findNow (.int .i64) (encP a) es i = some ((fidx a m i).map fun x => (x.1, encC x.2))
  | [], [], i, _ => by simp [Instr.findNow, fidx]
  | [], _ :: _, _, h => by cases h
  | _ :: _, [], _, h => by cases h
  | e :: es, x :: m, i, h => by
    have h' : entry e :: es.map entry = (encP x.1, encC x.2) :: m.map (fun x => (encP x.1, encC x.2)) := h
    injection h' with h1 h2
    have hk : e.key = encP x.1 := congrArg Prod.fst h1
    have hv : e.val = encC x.2 := congrArg Prod.snd h1
    have ih := find_now a es m (i + 1) h2
    by_cases hx : x.1 = a
    · simp [Instr.findNow, hk, encP, hx, fidx, hv, same_now]
    · have hx' : ¬ a = x.1 := fun z => hx z.symm
      simp only [encP] at hk ih ⊢
      simp [Instr.findNow, hk, hx, hx', fidx, ih, same_now]
theorem run_findKey (w : World) (a : Int) (es : List MapEntry) (m : Ents) (h : es.map entry = m.map (fun x => (encP x.1, encC x.2))) :
    (Instr.findKey 3 (encP a) es).run Try.prog w = .ok ((fidx a m 0).map fun x => (x.1, encC x.2)) w :=
  MapKept.run_findKey Try.underlying3 (find_now a es m 0 h)
theorem fidx_get (a : Int) : ∀ (m : Ents) (i j : Nat) (c : Int), fidx a m i = some (j, c) → ∃ n, j = i + n ∧ m[n]? = some (a, c) ∧ upd a = upd a ∧ (∀ c', upd a c' m = m.set n (a, c')) ∧ del a m = m.eraseIdx n
  | [], _, _, _, h => by cases h
  | e :: m, i, j, c, h => by
    unfold fidx at h
    by_cases he : e.1 = a
    · rw [if_pos he] at h
      injection h with h
      injection h with h1 h2
      refine ⟨0, h1.symm, ?_, rfl, fun c' => ?_, ?_⟩
      · rw [← he, ← h2]; rfl
      · simp only [upd]; rw [if_pos he]; rfl
      · simp only [del]; rw [if_pos he]; rfl
    · rw [if_neg he] at h
      obtain ⟨n, h1, h2, _, h3, h4⟩ := fidx_get a m (i + 1) j c h
      refine ⟨n + 1, by omega, h2, rfl, fun c' => ?_, ?_⟩
      · simp only [upd]; rw [if_neg he, h3 c']; rfl
      · simp only [del]; rw [if_neg he, h4]; rfl
theorem fidx_none (a : Int) : ∀ (m : Ents) (i : Nat), fidx a m i = none → (∀ c, upd a c m = m ++ [(a, c)]) ∧ del a m = m
  | [], _, _ => ⟨fun _ => rfl, rfl⟩
  | e :: m, i, h => by
    unfold fidx at h
    by_cases he : e.1 = a
    · rw [if_pos he] at h; cases h
    · rw [if_neg he] at h
      obtain ⟨h1, h2⟩ := fidx_none a m (i + 1) h
      refine ⟨fun c => ?_, ?_⟩
      · simp only [upd]; rw [if_neg he, h1 c]; rfl
      · simp only [del]; rw [if_neg he, h2]
section
variable {T E : TypeId}
/-- A look-up: the world stays. -/
theorem MapIs.run_look {w : World} {b : Nat} {m : Ents} (h : MapIs w b m) (ht : Try.prog.underlying T = some (.map 3 E)) (hz : ∀ w : World, (zeroValue E).run Try.prog w = .ok (.int .i64 0) w) (a : Int) (ok : Bool) :
    (Instr.lookup T (.map (some b)) (encP a) ok).run Try.prog w = .ok (if ok then .tuple #[encC ((look a m).getD 0), .bool (look a m).isSome] else encC ((look a m).getD 0)) w := by
  obtain ⟨es, clock, hb, hes, hn, hst⟩ := h
  have hf := run_findKey w a es.toList m hes
  have hl := look_fidx a m 0
  have hc : ∀ em, (Instr.checkKey em 10000 3 (encP a)).run Try.prog w = .ok () w := fun em => check3 w em _
  cases hx : fidx a m 0 with
  | none =>
    rw [hx] at hf hl
    have hl : look a m = none := hl.symm
    rw [hl]
    simp [Instr.lookup, run_underlying ht, MapKept.run_getObj_map hb, hc, hf, hz, Result.andThen, encC]
  | some z =>
    rw [hx] at hf hl
    have hl : look a m = some z.2 := hl.symm
    rw [hl]
    simp [Instr.lookup, run_underlying ht, MapKept.run_getObj_map hb, hc, hf, Result.andThen]
theorem fidx_mem (a : Int) : ∀ (m : Ents) (i : Nat), a ∈ keys m → fidx a m i ≠ none
  | [], _, h => by cases h
  | (b, c) :: m, i, h => by
    unfold fidx
    by_cases e : a = b
    · rw [if_pos (by first | exact e | exact e.symm)]
      simp
    · rw [if_neg (by first | exact e | exact fun z => e z.symm)]
      rcases List.mem_cons.1 h with h | h
      · exact absurd h e
      · exact fidx_mem a m (i + 1) h
theorem key_none (a : Int) (es : List MapEntry) (m : Ents) (h : es.map entry = m.map (fun x => (encP x.1, encC x.2))) (hn : fidx a m 0 = none) : ∀ x ∈ es, x.key ≠ encP a := by
  intro x hx e
  have h1 : entry x ∈ m.map (fun x => (encP x.1, encC x.2)) := by rw [← h]; exact List.mem_map_of_mem hx
  obtain ⟨y, hy, ey⟩ := List.mem_map.1 h1
  have h2 : encP y.1 = x.key := congrArg Prod.fst ey
  rw [e] at h2
  have h3 : y.1 = a := by unfold encP at h2; injection h2
  exact fidx_mem a m 0 (by rw [← h3]; exact List.mem_map_of_mem (f := Prod.fst) hy) hn
/-- A store. -/
theorem MapIs.run_update {w : World} {b : Nat} {m : Ents} (h : MapIs w b m) (ht : Try.prog.underlying T = some (.map 3 E)) (a : Int) (c : Int) :
    ∃ w', (Instr.mapUpdate T (.map (some b)) (encP a) (encC c)).run Try.prog w = .ok () w' ∧ MapIs w' b (upd a c m) ∧ w.grownBy w' (some b) := by
  have hlt := h.lt
  obtain ⟨es, clock, hb, hes, hn, hst⟩ := h
  have hf := run_findKey w a es.toList m hes
  have hc : ∀ em, (Instr.checkKey em 10000 3 (encP a)).run Try.prog w = .ok () w := fun em => check3 w em _
  have hg : ∀ o, w.grownBy (setBlock w b o) (some b) := fun o => ⟨rfl, rfl, rfl, by simp [setBlock], fun k hk hne => by
    have : b ≠ k := fun z => hne (by rw [z])
    simp [setBlock, Array.getElem?_setIfInBounds, this]⟩
  have hset : ∀ o, (setBlock w b o).heap[b]? = some o := fun o => by simp [setBlock, Array.getElem?_setIfInBounds, hlt]
  cases hx : fidx a m 0 with
  | none =>
    have hx0 := hx
    rw [hx] at hf
    obtain ⟨e1, _⟩ := fidx_none a m 0 hx
    refine ⟨setBlock w b (.map (es.push { key := encP a, val := encC c, born := clock }) (clock + 1)), ?_, ⟨_, _, hset _, ?_, nodup_upd a c m hn, MapKept.stamped_push hst (fun x hx => key_none a es.toList m hes hx0 x hx)⟩, hg _⟩
    · simp [Instr.mapUpdate, run_underlying ht, MapKept.run_getObj_map hb, hc, hf, MapKept.run_setObj_map _ hb, Result.andThen, setBlock]
    · rw [e1 c, Array.toList_push, List.map_append, List.map_append, hes]
      rfl
  | some z =>
    rw [hx] at hf
    obtain ⟨n, e1, e2, _, e3, _⟩ := fidx_get a m 0 z.1 z.2 hx
    have hz : z.1 = n := by omega
    have hkey : ((es[n]?).map (·.key)).getD (encP a) = encP a := by
      have : (es.toList.map entry)[n]? = some (encP a, encC z.2) := by rw [hes, List.getElem?_map, e2]; rfl
      rw [List.getElem?_map] at this
      cases hq : es.toList[n]? with
      | none => rw [hq] at this; cases this
      | some y =>
        rw [hq] at this
        have hy : entry y = (encP a, encC z.2) := Option.some.inj this
        rw [Array.getElem?_toList] at hq
        rw [hq]
        exact congrArg Prod.fst hy
    refine ⟨setBlock w b (.map (es.modify n fun e => { e with key := encP a, val := encC c }) clock), ?_, ⟨_, _, hset _, ?_, nodup_upd a c m hn, MapKept.stamped_modify hst n _ (fun _ _ => rfl) (fun e _ he => by rw [he] at hkey; exact hkey.symm)⟩, hg _⟩
    · have hs := stays3 w a
      have hs' : (Instr.keyThatStays (encP a) (encP a)).run Try.prog w = .ok (encP a) w := hs
      simp [Instr.mapUpdate, run_underlying ht, MapKept.run_getObj_map hb, hc, hf, hz, hkey, hs', MapKept.run_setObj_map _ hb, Result.andThen, setBlock]
    · rw [e3 c, List.map_set, ← hes]
      apply List.ext_getElem?
      intro i
      rw [List.getElem?_map, Array.getElem?_toList, Array.getElem?_modify, List.getElem?_set, List.getElem?_map, Array.getElem?_toList, List.length_map, Array.length_toList]
      by_cases hi : n = i
      · subst hi
        rw [if_pos rfl, if_pos rfl]
        by_cases hlt2 : n < es.size
        · rw [if_pos hlt2, Array.getElem?_eq_getElem hlt2]
          rfl
        · rw [if_neg hlt2, Array.getElem?_eq_none (by omega)]
          rfl
      · rw [if_neg hi, if_neg hi]
/-- A delete. -/
theorem MapIs.run_delete {w : World} {b : Nat} {m : Ents} (h : MapIs w b m) (ht : Try.prog.underlying T = some (.map 3 E)) (a : Int) (ty : TypeId) :
    ∃ w', (Builtin.delete_ #[T, 3] ty #[.map (some b), encP a]).run Try.prog w = .ok (.tuple #[]) w' ∧ MapIs w' b (del a m) ∧ w.grownBy w' (some b) := by
  have hlt := h.lt
  obtain ⟨es, clock, hb, hes, hn, hst⟩ := h
  have hf := run_findKey w a es.toList m hes
  have hc : ∀ em, (Instr.checkKey em 10000 3 (encP a)).run Try.prog w = .ok () w := fun em => check3 w em _
  have hg : ∀ o, w.grownBy (setBlock w b o) (some b) := fun o => ⟨rfl, rfl, rfl, by simp [setBlock], fun k hk hne => by
    have : b ≠ k := fun z => hne (by rw [z])
    simp [setBlock, Array.getElem?_setIfInBounds, this]⟩
  have hset : ∀ o, (setBlock w b o).heap[b]? = some o := fun o => by simp [setBlock, Array.getElem?_setIfInBounds, hlt]
  cases hx : fidx a m 0 with
  | none =>
    rw [hx] at hf
    obtain ⟨_, e1⟩ := fidx_none a m 0 hx
    refine ⟨setBlock w b (.map es clock), ?_, ⟨_, _, hset _, by rw [e1]; exact hes, nodup_del a m hn, hst⟩, hg _⟩
    simp [Builtin.delete_, run_underlying ht, MapKept.run_getObj_map hb, hc, hf, MapKept.run_setObj_map _ hb, Result.andThen, setBlock]
  | some z =>
    rw [hx] at hf
    obtain ⟨n, e1, e2, _, _, e4⟩ := fidx_get a m 0 z.1 z.2 hx
    have hz : z.1 = n := by omega
    have hn2 : n < es.size := by
      have h1 := (List.getElem?_eq_some_iff.1 e2).1
      have h2 := congrArg List.length hes
      rw [List.length_map, List.length_map, Array.length_toList] at h2
      omega
    refine ⟨setBlock w b (.map (es.eraseIdxIfInBounds n) clock), ?_, ⟨_, _, hset _, ?_, nodup_del a m hn, MapKept.stamped_erase hst n⟩, hg _⟩
    · simp [Builtin.delete_, run_underlying ht, MapKept.run_getObj_map hb, hc, hf, hz, MapKept.run_setObj_map _ hb, Result.andThen, setBlock]
    · have hsub : (es.eraseIdxIfInBounds n).toList = es.toList.eraseIdx n := by
        unfold Array.eraseIdxIfInBounds
        rw [dif_pos hn2]
        simp
      rw [e4, hsub, Go.ChangeMaps.map_eraseIdx, Go.ChangeMaps.map_eraseIdx, hes]
end
end Go.Proofs.Ytflajmgichdhhaa.PG
