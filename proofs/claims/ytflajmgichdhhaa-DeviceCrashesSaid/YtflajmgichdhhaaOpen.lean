/- A slice of strings that came in, as the rows' data tell it, reads as a list of byte strings that is no longer than the row's reach allows. -/
import Derived.Test.YtflajmgichdhhaaPGx0
import Derived.SizedLaws
import Derived.SliceStrings
namespace Go.Proofs.Ytflajmgichdhhaa.Open
open Go.RowKit Go.WideShapes Go.ChangeShapes Go.Proofs.YtflajmgichdhhaaW.PrintWords
theorem open_strs {H : Type} {enc : TypeId × Value → H} {P : Program} {W : World} {base : Nat} {spare : Nat → Bool} {held : Bool} {t e : TypeId} {a : Option Addr} {len cap : Nat} {d : DataW H} {ps : List MemPlace} {ts : List TypeId} {ds : List (DataW H)} {j : Nat}
    (hsz : (DataW.weightsEach P ts ds).all (· ≤ reachBytes) = true) (ht : ts[j]? = some t) (hd : ds[j]? = some d) (hu : P.underlying t = some (.slice e)) (he : P.underlying e = some .string) (hc : P.cellsOf e = 1) (hB : P.bytesOf e = 16)
    (h : DataW.Trod enc P W base spare held t (.slice a len cap) d ps) : ∃ l : List ByteArray, len = l.length ∧ Kd.C Kd.string W a l.length l ∧ l.length ≤ cap ∧ l.length ≤ maxLen ∧ l.length * 16 ≤ 140737488351232 := by
  obtain ⟨fuel, hf⟩ := h
  rcases open_strings hu he hc hf with ⟨hcs, _⟩ | ⟨x, l, c, ss, hcs, _, hl, hm, hz, hx, hcell, _⟩
  · simp [Value.cells] at hcs
    obtain ⟨rfl, rfl, rfl⟩ := hcs
    exact ⟨[], rfl, ⟨rfl, by decide, fun hn => absurd hn (by simp)⟩, Nat.le_refl _, Nat.zero_le _, by decide⟩
  · simp [Value.cells] at hcs
    obtain ⟨rfl, rfl, rfl⟩ := hcs
    obtain ⟨hx, _⟩ := Prod.mk.inj hx
    subst hx
    have z := sized_slice hsz ht hd hu
    rw [hB] at z
    have hl2 : len ≤ ss.length := by
      rw [hz]
      split
      · exact hl
      · exact Nat.le_refl _
    have h1 : (strs (H := H) (ss.take len)).length + (strs (H := H) (ss.drop len)).length = ss.length := by
      simp [strs]
      omega
    rw [h1] at z
    have hlen : (ss.take len).length = len := by rw [List.length_take]; omega
    have hm2 : cap ≤ 9223372036854775807 := hm
    have hC : Kd.C Kd.string W (some x) (ss.take len).length (ss.take len) := Kd.C_of_reads (enc := Value.string) (d := ByteArray.empty) (h1 := fun _ => rfl) ⟨rfl, by omega, fun hn => ⟨x, rfl, fun i hi => by
      rw [hcell i (by omega)]
      have : (ss.take len).getD i ByteArray.empty = ss.getD i ByteArray.empty := by
        rw [List.getD_eq_getElem?_getD, List.getD_eq_getElem?_getD, List.getElem?_take_of_lt (by omega)]
      rw [this]⟩⟩
    refine ⟨ss.take len, hlen.symm, hC, by omega, by omega, ?_⟩
    rw [hlen]
    exact Nat.le_trans (Nat.mul_le_mul_right _ hl2) z
end Go.Proofs.Ytflajmgichdhhaa.Open
